/- The sum of bytes, as bits: combining two of them, a byte turned, bytes 0. -/
import Derived.Laws.BitsAllLaws
import Derived.Test.YtbfogcckbhkciaaHandCrc
import Derived.Test.YtbfogcckbhkciaaHandNum
namespace Go.Proofs.Ytbfogcckbhkciaa.Hand
open Go.RowKit Go.Proofs.YtbfogcckbhkciaaW.PrintWords

abbrev V16 := BitVec 16
def tI (x : V16) : Int := (x.toNat : Int)
theorem tI_lt (x : V16) : 0 ≤ tI x ∧ tI x < 65536 := ⟨Int.natCast_nonneg _, by have := x.isLt; unfold tI; omega⟩
theorem tI_toNat (x : V16) : (tI x).toNat = x.toNat := Int.toNat_natCast _
theorem tI_inj {x y : V16} (h : tI x = tI y) : x = y := BitVec.eq_of_toNat_eq (by unfold tI at h; omega)
theorem tI_xor (x y : V16) : bits .xor .u16 (tI x) (tI y) = tI (x ^^^ y) := by
  have := tI_lt x; have := tI_lt y
  rw [u16_xor _ _ (by omega) (by omega) (by omega) (by omega), tI_toNat, tI_toNat, tI, BitVec.toNat_xor]
theorem tI_ofInt (n : Int) : tI (BitVec.ofInt 16 n) = n % 65536 := by
  rw [tI, BitVec.toNat_ofInt]
  have : 0 ≤ n % 65536 := Int.emod_nonneg _ (by decide)
  show ((n % ((2 ^ 16 : Nat) : Int)).toNat : Int) = _
  rw [show (((2 ^ 16 : Nat) : Int)) = 65536 from rfl]
  omega
theorem tI_shl (x : V16) (k : Nat) : tI (x <<< k) = tI x * 2 ^ k % 65536 := by
  rw [tI, BitVec.toNat_shiftLeft, Nat.shiftLeft_eq]
  unfold tI
  rw [Int.natCast_emod, Int.natCast_mul, Int.natCast_pow]
  rfl
def bitV (x : V16) : V16 := if x.msb then (x <<< 1) ^^^ 4129#16 else x <<< 1
theorem bit_v (x : V16) : bitN (tI x) = tI (bitV x) := by
  have h1 := tI_lt x
  have hm : x.msb = decide (tI x / 32768 = 1) := by
    rw [BitVec.msb_eq_decide]
    refine decide_eq_decide.2 ?_
    unfold tI at *
    constructor <;> intro h <;> omega
  have h2 : IntKind.u16.wrap (tI x * 2) = tI (x <<< 1) := by rw [tI_shl, IntKind.wrap_u16]; rfl
  rw [bitN, bitV, hm, h2]
  by_cases h : tI x / 32768 = 1
  · rw [if_pos h, if_pos (by simpa using h), ← tI_xor]
    rfl
  · rw [if_neg h, if_neg (by simpa using h)]
def bitsV (x : V16) : Nat → V16
  | 0 => x
  | k + 1 => bitV (bitsV x k)
theorem bits_v (x : V16) (k : Nat) : bitsN (tI x) k = tI (bitsV x k) := by
  induction k with
  | zero => rfl
  | succ k ih => rw [bitsN, ih, bit_v]; rfl
def byteV (x : V16) (c : Int) : V16 := bitsV (x ^^^ (BitVec.ofInt 16 c <<< 8)) 8
theorem byte_v (x : V16) (c : Int) : byteN (tI x) c = tI (byteV x c) := by
  have h2 : IntKind.u16.wrap (IntKind.u16.wrap c * 256) = tI (BitVec.ofInt 16 c <<< 8) := by
    rw [tI_shl, tI_ofInt, IntKind.wrap_u16, IntKind.wrap_u16]; rfl
  rw [byteN, h2, tI_xor, bits_v]; rfl
def crcV (x : V16) (l : List Int) : V16 := l.foldl byteV x
/-! linear -/
theorem msb_xor (x y : V16) : (x ^^^ y).msb = (x.msb ^^ y.msb) := by
  rw [BitVec.msb_xor]
theorem bitV_xor (x y : V16) : bitV (x ^^^ y) = bitV x ^^^ bitV y := by
  unfold bitV
  rw [msb_xor, BitVec.shiftLeft_xor_distrib]
  cases x.msb <;> cases y.msb
  · rfl
  · show x <<< 1 ^^^ y <<< 1 ^^^ 4129#16 = _
    rw [BitVec.xor_assoc]; rfl
  · show x <<< 1 ^^^ y <<< 1 ^^^ 4129#16 = x <<< 1 ^^^ 4129#16 ^^^ y <<< 1
    rw [BitVec.xor_assoc, BitVec.xor_assoc, BitVec.xor_comm (y <<< 1)]
  · show x <<< 1 ^^^ y <<< 1 = (x <<< 1 ^^^ 4129#16) ^^^ (y <<< 1 ^^^ 4129#16)
    rw [BitVec.xor_comm (y <<< 1) (4129#16), BitVec.xor_assoc, ← BitVec.xor_assoc (4129#16), BitVec.xor_self, BitVec.zero_xor]
theorem bitsV_xor (x y : V16) (k : Nat) : bitsV (x ^^^ y) k = bitsV x k ^^^ bitsV y k := by
  induction k with
  | zero => rfl
  | succ k ih => rw [bitsV, ih, bitV_xor]; rfl
theorem bitV_zero {x : V16} (h : bitV x = 0#16) : x = 0#16 := by
  unfold bitV at h
  cases hm : x.msb with
  | true =>
    rw [hm, if_pos rfl] at h
    have := congrArg (fun v : V16 => v.getLsbD 0) h
    simp at this
  | false =>
    rw [hm, if_neg (by decide)] at h
    apply BitVec.eq_of_getLsbD_eq
    intro i hi
    have h2 := congrArg (fun v : V16 => v.getLsbD (i + 1)) h
    simp only [BitVec.getLsbD_shiftLeft] at h2
    by_cases hl : i = 15
    · subst hl
      rw [BitVec.msb_eq_getLsbD_last] at hm
      simpa using hm
    · have h3 : i + 1 < 16 := by omega
      simpa [h3] using h2
theorem bitsV_zero {x : V16} (k : Nat) (h : bitsV x k = 0#16) : x = 0#16 := by
  induction k with
  | zero => exact h
  | succ k ih => exact ih (bitV_zero h)
theorem bitsV_inj {x y : V16} (k : Nat) (h : bitsV x k = bitsV y k) : x = y := by
  have : x ^^^ y = 0#16 := bitsV_zero k (by rw [bitsV_xor, h, BitVec.xor_self])
  exact BitVec.xor_eq_zero_iff.1 this
theorem byteV_inj {x y : V16} (c : Int) (h : byteV x c = byteV y c) : x = y := by
  have := bitsV_inj 8 h
  have h2 := congrArg (· ^^^ (BitVec.ofInt 16 c <<< 8)) this
  simpa [BitVec.xor_assoc] using h2
theorem byteV_byte {x : V16} {c d : Int} (hc : 0 ≤ c ∧ c < 256) (hd : 0 ≤ d ∧ d < 256) (h : byteV x c = byteV x d) : c = d := by
  have := bitsV_inj 8 h
  have h2 := congrArg (x ^^^ ·) this
  simp only [← BitVec.xor_assoc, BitVec.xor_self, BitVec.zero_xor] at h2
  have h3 := congrArg tI h2
  rw [tI_shl, tI_shl, tI_ofInt, tI_ofInt] at h3
  omega
theorem crcV_inj {x y : V16} (l : List Int) (h : crcV x l = crcV y l) : x = y := by
  induction l generalizing x y with
  | nil => exact h
  | cons c l ih => exact byteV_inj c (ih h)
theorem crcV_append (x : V16) (a b : List Int) : crcV x (a ++ b) = crcV (crcV x a) b := List.foldl_append
theorem bitsV_0 (k : Nat) : bitsV 0#16 k = 0#16 := by
  induction k with
  | zero => rfl
  | succ k ih => rw [bitsV, ih]; rfl
theorem crcV_zeros (k : Nat) : crcV 0#16 (List.replicate k 0) = 0#16 := by
  induction k with
  | zero => rfl
  | succ k ih => rw [List.replicate_succ]; exact ih
theorem byteV_xor (x y : V16) (a b : Int) (ha : 0 ≤ a ∧ a < 256) (hb : 0 ≤ b ∧ b < 256) : byteV (x ^^^ y) (((a.toNat ^^^ b.toNat : Nat)) : Int) = byteV x a ^^^ byteV y b := by
  unfold byteV
  rw [← bitsV_xor]
  congr 1
  have : (BitVec.ofInt 16 (((a.toNat ^^^ b.toNat : Nat)) : Int)) = BitVec.ofInt 16 a ^^^ BitVec.ofInt 16 b := by
    obtain ⟨m, rfl⟩ := Int.eq_ofNat_of_zero_le ha.1
    obtain ⟨n, rfl⟩ := Int.eq_ofNat_of_zero_le hb.1
    simp only [Int.toNat_natCast, BitVec.ofInt_natCast]
    apply BitVec.eq_of_toNat_eq
    rw [BitVec.toNat_xor, BitVec.toNat_ofNat, BitVec.toNat_ofNat, BitVec.toNat_ofNat, Nat.xor_mod_two_pow]
  rw [this, BitVec.shiftLeft_xor_distrib]
  simp only [BitVec.xor_assoc]
  congr 1
  rw [← BitVec.xor_assoc, ← BitVec.xor_assoc, BitVec.xor_comm y]
def xorL : List Int → List Int → List Int
  | a :: l, b :: m => ((a.toNat ^^^ b.toNat : Nat) : Int) :: xorL l m
  | _, _ => []
theorem crcV_xor (x y : V16) (l m : List Int) (h : l.length = m.length) (hl : ∀ a ∈ l, 0 ≤ a ∧ a < 256) (hm : ∀ a ∈ m, 0 ≤ a ∧ a < 256) : crcV (x ^^^ y) (xorL l m) = crcV x l ^^^ crcV y m := by
  induction l generalizing m x y with
  | nil =>
    cases m with
    | nil => rfl
    | cons b m => simp at h
  | cons a l ih =>
    cases m with
    | nil => simp at h
    | cons b m =>
      show crcV (byteV (x ^^^ y) _) (xorL l m) = crcV (byteV x a) l ^^^ crcV (byteV y b) m
      rw [byteV_xor x y a b (hl a (by simp)) (hm b (by simp))]
      exact ih _ _ m (by simpa using h) (fun c hc => hl c (by simp [hc])) (fun c hc => hm c (by simp [hc]))

theorem take_rd {l : List Int} {k : Nat} (h : k < l.length) : l.take (k + 1) = l.take k ++ [rd l k] := by
  rw [List.take_add_one]
  congr 1
  rw [rd]
  simp [h]
theorem reg_v (sum : Int) (l : List Int) (k : Nat) (h : k ≤ l.length) : regN sum l k = tI (crcV (BitVec.ofInt 16 sum) (l.take k)) := by
  induction k with
  | zero => rw [regN, IntKind.wrap_u16, List.take_zero, ← tI_ofInt]; rfl
  | succ k ih =>
    rw [regN, ih (by omega), byte_v, take_rd (by omega), crcV_append]
    rfl
theorem more_v (sum : Int) (A : Option Addr) (c : Nat) (l : List Int) (w : World) (hr : ReadsInt w .u8 A l.length l) (hl : l.length ≤ 140737488355328) :
    Calls Try.prog 134 #[.int .i64 sum, .slice A l.length c] w fun e w' => e = .returned (.int .i64 (tI (crcV (BitVec.ofInt 16 sum) l))) ∧ Below w.heap.size w w' := by
  have hw : wrap64 (regN sum l l.length) = tI (crcV (BitVec.ofInt 16 sum) l) := by
    rw [reg_v sum l _ (Nat.le_refl _), List.take_of_length_le (Nat.le_refl _)]
    have := tI_lt (crcV (BitVec.ofInt 16 sum) l)
    unfold wrap64
    omega
  exact more_calls sum A c l _ w (Kd.C_of_reads (d := (0 : Int)) (h1 := fun _ => rfl) hr) (by rw [moreF, if_pos hl, hw])
end Go.Proofs.Ytbfogcckbhkciaa.Hand
