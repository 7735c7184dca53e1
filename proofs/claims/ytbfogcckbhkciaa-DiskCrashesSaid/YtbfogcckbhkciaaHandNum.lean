/- Plain laws on bytes as numbers: no program in sight. -/
import Derived.Laws.BitsAllLaws
import Derived.Test.YtbfogcckbhkciaaWWords
import Derived.Test.YtbfogcckbhkciaaHandPut
namespace Go.Proofs.Ytbfogcckbhkciaa.Hand
open Go.RowKit Go.Proofs.YtbfogcckbhkciaaW.PrintWords

def Bys (l : List Int) : Prop := ∀ x ∈ l, 0 ≤ x ∧ x < 256
theorem rd_bys {l : List Int} (h : Bys l) (i : Int) : 0 ≤ rd l i ∧ rd l i < 256 := by
  unfold rd
  rcases Nat.lt_or_ge i.toNat l.length with hl | hl
  · rw [List.getD_eq_getElem?_getD, List.getElem?_eq_getElem hl]
    exact h _ (List.getElem_mem hl)
  · rw [List.getD_eq_getElem?_getD, List.getElem?_eq_none hl]
    exact ⟨Int.le_refl _, by decide⟩
theorem bytesOf_bys (s : ByteArray) : Bys (bytesOf s) := by
  intro x hx
  simp only [bytesOf, List.mem_map] at hx
  obtain ⟨b, _, rfl⟩ := hx
  have := b.toNat_lt
  omega
/-- The number of bytes, the lowest first. -/
def numL : List Int → Int
  | [] => 0
  | x :: l => x + 256 * numL l
theorem numL_nonneg {l : List Int} (h : Bys l) : 0 ≤ numL l := by
  induction l with
  | nil => exact Int.le_refl _
  | cons x l ih =>
    have := ih (fun y hy => h y (List.mem_cons_of_mem _ hy))
    have := h x List.mem_cons_self
    unfold numL
    omega
theorem numL_lt {l : List Int} (h : Bys l) : numL l < 256 ^ l.length := by
  induction l with
  | nil => decide
  | cons x l ih =>
    have := ih (fun y hy => h y (List.mem_cons_of_mem _ hy))
    have := h x List.mem_cons_self
    unfold numL
    rw [List.length_cons, Int.pow_succ]
    omega
theorem numL_append (l m : List Int) : numL (l ++ m) = numL l + 256 ^ l.length * numL m := by
  induction l with
  | nil => simp [numL]
  | cons x l ih =>
    rw [List.cons_append, numL, numL, ih, List.length_cons, Int.pow_succ, Int.mul_add, ← Int.mul_assoc, Int.add_assoc, Int.mul_comm 256 (256 ^ l.length)]
/-- So many bytes from at_ on. -/
def cut (l : List Int) (a w : Nat) : List Int := (l.drop a).take w
theorem cut_bys {l : List Int} (h : Bys l) (a w : Nat) : Bys (cut l a w) := fun x hx => h x (List.mem_of_mem_drop (List.mem_of_mem_take hx))
theorem cut_length {l : List Int} {a w : Nat} (h : a + w ≤ l.length) : (cut l a w).length = w := by
  simp only [cut, List.length_take, List.length_drop]
  omega
theorem cut_succ {l : List Int} {a k : Nat} (h : a + k < l.length) : cut l a (k + 1) = cut l a k ++ [rd l ((a : Int) + k)] := by
  have hd : k < (l.drop a).length := by rw [List.length_drop]; omega
  rw [cut, cut, List.take_succ_eq_append_getElem hd, List.getElem_drop]
  congr 2
  unfold rd
  rw [show ((a : Int) + k).toNat = a + k by omega, List.getD_eq_getElem?_getD, List.getElem?_eq_getElem h]
  rfl
/-- The number from the highest byte down, as the reference reckons it. -/
def hiN (l : List Int) (a : Int) (w : Nat) : Nat → Int
  | 0 => 0
  | j + 1 => hiN l a w j * 256 + rd l (a + (w - 1 - j : Int))
theorem hiN_range {l : List Int} (h : Bys l) (a : Int) (w j : Nat) : 0 ≤ hiN l a w j ∧ hiN l a w j < 256 ^ j := by
  induction j with
  | zero => exact ⟨Int.le_refl _, by simp [hiN]⟩
  | succ j ih =>
    have := rd_bys h (a + (w - 1 - j : Int))
    unfold hiN
    rw [Int.pow_succ]
    omega
theorem hiN_eq {l : List Int} (a w j : Nat) (hj : j ≤ w) (h : a + w ≤ l.length) : hiN l a w j = numL (cut l (a + (w - j)) j) := by
  induction j with
  | zero => simp [hiN, cut, numL]
  | succ j ih =>
    rw [hiN, ih (by omega)]
    have hlt : a + (w - (j + 1)) < l.length := by omega
    have e : cut l (a + (w - (j + 1))) (j + 1) = rd l ((a : Int) + (w - 1 - j : Int)) :: cut l (a + (w - j)) j := by
      unfold cut
      rw [List.drop_eq_getElem_cons hlt, List.take_succ_cons, show a + (w - (j + 1)) + 1 = a + (w - j) by omega]
      congr 1
      unfold rd
      rw [show ((a : Int) + (w - 1 - j : Int)).toNat = a + (w - (j + 1)) by omega, List.getD_eq_getElem?_getD, List.getElem?_eq_getElem hlt]
      rfl
    rw [e, numL]
    omega
theorem pow256 (k : Nat) : (256 : Int) ^ k = 2 ^ (8 * k) := by
  rw [Int.pow_mul]
  rfl
theorem u64_wrap_of {x : Int} (h0 : 0 ≤ x) (h1 : x < 18446744073709551616) : IntKind.u64.wrap x = x := by
  have : IntKind.u64.wrap x = x % 18446744073709551616 := by simp [IntKind.wrap, IntKind.signed, IntKind.bits]
  omega
theorem or_split (a x : Int) (k : Nat) (hk : k < 8) (ha : 0 ≤ a) (ha2 : a < 2 ^ (8 * k)) (hx : 0 ≤ x) (hx2 : x < 256) : bits .or .u64 a (x * 2 ^ (8 * k)) = a + 2 ^ (8 * k) * x := by
  obtain ⟨a, rfl⟩ := Int.eq_ofNat_of_zero_le ha
  obtain ⟨x, rfl⟩ := Int.eq_ofNat_of_zero_le hx
  have ha3 : a < 2 ^ (8 * k) := by exact_mod_cast ha2
  have hx3 : x < 256 := by omega
  have hp : (2 : Nat) ^ (8 * k) ≤ 2 ^ 56 := Nat.pow_le_pow_right (by omega) (by omega)
  have hm : x * 2 ^ (8 * k) < 18446744073709551616 := by
    calc x * 2 ^ (8 * k) ≤ 255 * 2 ^ 56 := Nat.mul_le_mul (by omega) hp
      _ < 18446744073709551616 := by decide
  have e : ((x : Int) * 2 ^ (8 * k)) = ((x * 2 ^ (8 * k) : Nat) : Int) := by push_cast; rfl
  rw [e, u64_or_nat a _ (by omega) hm]
  have h2 := Nat.shiftLeft_add_eq_or_of_lt ha3 x
  rw [Nat.shiftLeft_eq] at h2
  rw [Nat.or_comm, ← h2]
  push_cast
  rw [Int.mul_comm, Int.add_comm]
theorem getN_eq {l : List Int} (hb : Bys l) (a k : Nat) (hk : k ≤ 8) (h : a + k ≤ l.length) : getN l a k = numL (cut l a k) := by
  induction k with
  | zero => simp [getN, cut, numL]
  | succ k ih =>
    have hx := rd_bys hb ((a : Int) + k)
    have hl := numL_lt (cut_bys hb a k)
    rw [cut_length (by omega), pow256] at hl
    have h0 := numL_nonneg (cut_bys hb a k)
    have hp : (2 : Int) ^ (8 * k) ≤ 2 ^ 56 := by
      have : (2 : Nat) ^ (8 * k) ≤ 2 ^ 56 := Nat.pow_le_pow_right (by omega) (by omega)
      exact_mod_cast this
    have hp0 : (0 : Int) < 2 ^ (8 * k) := Int.pow_pos (by omega)
    have hm : rd l ((a : Int) + k) * 2 ^ (8 * k) < 18446744073709551616 := by
      calc rd l ((a : Int) + k) * 2 ^ (8 * k) ≤ 255 * 2 ^ 56 := Int.mul_le_mul (by omega) hp (by omega) (by omega)
        _ < 18446744073709551616 := by decide
    have hm0 : 0 ≤ rd l ((a : Int) + k) * 2 ^ (8 * k) := Int.mul_nonneg hx.1 (by omega)
    rw [getN, ih (by omega) (by omega), u64_wrap_of hx.1 (by omega), u64_wrap_of hm0 hm, or_split _ _ k (by omega) h0 hl hx.1 hx.2, cut_succ (by omega), numL_append, cut_length (by omega), pow256]
    simp [numL]
end Go.Proofs.Ytbfogcckbhkciaa.Hand
