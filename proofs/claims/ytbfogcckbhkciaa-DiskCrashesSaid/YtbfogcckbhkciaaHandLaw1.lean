/- The statements of layer 1, walked: what is alive. -/
import Derived.Test.YtbfogcckbhkciaaHandRef1b
import Derived.Deep.RegionHeld3
namespace Go.Proofs.Ytbfogcckbhkciaa.Hand
open Go.RowKit Go.Proofs.YtbfogcckbhkciaaW.PrintWords

theorem conv_own {w : World} {base : Nat} {ok : Nat → Prop} {v : Value} {xs : List Int} (h : Kd.R (Kd.int .u8) 5 w base ok v xs) : (convert 23 9 v).run Try.prog w = .ok (.string (strOfNums xs)) w :=
  own_string Try.underlying23 Try.underlying5 Try.underlying9 (Kd.own_of_R h)
theorem conv_some {w : World} (a : Addr) {c : Nat} {xs : List Int} (h : ReadsInt w .u8 (some a) xs.length xs) : (convert 23 9 (.slice (some a) xs.length c)).run Try.prog w = .ok (.string (strOfNums xs)) w := by
  have hl : (loadCells a xs.length).run Try.prog w = .ok (xs.map (Value.int .u8)).toArray w := by
    have := run_loadCells_list (P := Try.prog) w a (xs.map (Value.int .u8)) (fun j v hj => by
      have hjl : j < xs.length := by
        rcases Nat.lt_or_ge j xs.length with h | h
        · exact h
        · simp [List.getElem?_eq_none (show (xs.map (Value.int .u8)).length ≤ j by simpa using h)] at hj
      obtain ⟨ad, he, hc⟩ := h.2.2 (by omega)
      obtain rfl := Option.some.inj he
      rw [hc j hjl]
      simp [List.getElem?_eq_getElem hjl] at hj
      subst hj
      simp [List.getD, List.getElem?_eq_getElem hjl])
    simpa using this
  rw [run_convert_bytes_string w 23 9 5 _ xs.length c Try.underlying23 Try.underlying5 Try.underlying9, run_bytesToString w _ xs.length c xs hl, foldl_push_bytes]
  simp [strOfNums, ByteArray.empty, ByteArray.emptyWithCapacity]
  rfl
theorem conv_reads {w : World} {A : Option Addr} {c : Nat} {xs : List Int} (h : ReadsInt w .u8 A xs.length xs) : (convert 23 9 (.slice A xs.length c)).run Try.prog w = .ok (.string (strOfNums xs)) w := by
  cases A with
  | none =>
    obtain rfl : xs = [] := by
      cases xs with
      | nil => rfl
      | cons x l => exact absurd (h.2.2 (by simp)) (by simp)
    exact run_convert_bytes_nil w 23 5 Try.underlying23 Try.underlying5 0 c 9 Try.underlying9
  | some a =>
    exact conv_some a h
theorem reads_own2 {w : World} {base : Nat} {ok : Nat → Prop} {v : Value} {xs : List Int} (h : Kd.R (Kd.int .u8) 5 w base ok v xs) : ∃ A c, v = .slice A xs.length c ∧ xs.length ≤ c ∧ ReadsInt w .u8 A xs.length xs := by
  obtain ⟨A, c, he, hl, hc⟩ := Kd.R_reads h
  exact ⟨A, c, he, hl, Kd.reads_of_C (d := (0 : Int)) hc⟩
theorem info_of : ∃ i, Try.prog.info? 5 = some i ∧ i.size = 1 := by
  obtain ⟨i, hi, hz⟩ := Option.map_eq_some_iff.1 info_u8
  simp only [Prod.mk.injEq] at hz
  exact ⟨i, hi, hz.2.1⟩
/-- s[:j], and s[j:], of a row of bytes. -/
theorem take_run (A : Option Addr) (c n j : Nat) (hj : j ≤ n) (hc : n ≤ c) (_hm : n ≤ 9223372036854775807) : ∀ W : World, (Instr.slice 23 (.slice A n c) none (some (.int .i64 (j : Int))) none).run Try.prog W = .ok (.slice A j c) W := by
  obtain ⟨i, hi, hz⟩ := info_of
  obtain ⟨h, _, _⟩ := print_take_int (k := .u8) 23 5 Try.underlying23 hi hz A c (List.replicate n 0) j (by omega) (by simp; exact hj) (by simpa using hc)
  simpa [List.take_replicate, Nat.min_eq_left hj] using h
theorem drop_run (A : Option Addr) (c : Nat) (xs : List Int) (j : Nat) (hj : j ≤ xs.length) (hc : xs.length ≤ c) : ∃ A' : Option Addr, (∀ W : World, (Instr.slice 23 (.slice A xs.length c) (some (.int .i64 (j : Int))) none none).run Try.prog W = .ok (.slice A' (xs.length - j) (c - j)) W) ∧
    ∀ w : World, ReadsInt w .u8 A xs.length xs → ReadsInt w .u8 A' (xs.length - j) (xs.drop j) := by
  obtain ⟨i, hi, hz⟩ := info_of
  obtain ⟨A', h1, h2, _⟩ := print_drop_of (Value.int .u8) (0 : Int) 23 5 .i64 Try.underlying23 hi hz A c xs j (by omega) (by omega) hc
  refine ⟨A', by simpa using h1, fun w hw => ?_⟩
  have := h2 w hw
  simpa [List.length_drop, ReadsInt, ReadsOf] using this
theorem reads_own {w : World} {base : Nat} {ok : Nat → Prop} {v : Value} {xs : List Int} (h : Kd.R (Kd.int .u8) 5 w base ok v xs) : ∃ A c, v = .slice A xs.length c ∧ ReadsInt w .u8 A xs.length xs :=
  own_reads (Kd.own_of_R h)

/-- What Get tells, as one number and one answer. -/
def gNum (l : List Int) (at_ width : Int) : Int := if rightB width && insideB at_ width l.length then numL (cut l at_.toNat width.toNat) else 0
theorem get_any (A : Option Addr) (c : Nat) (l : List Int) (at_ width : Int) (w : World) (hr : ReadsInt w .u8 A l.length l) (hb : Bys l) :
    Calls Try.prog 94 #[.slice A l.length c, .int .i64 at_, .int .i64 width] w fun e w' => e = .returned (.tuple #[.int .u64 (gNum l at_ width), .bool (rightB width && insideB at_ width l.length)]) ∧ Below w.heap.size w w' := by
  cases h : (rightB width && insideB at_ width l.length) with
  | true =>
    obtain ⟨a, m, rfl, rfl, hm0, hm8, ham⟩ := inside_of h
    refine (get_yes l A c a m w hr h).mono fun e w' he => ⟨?_, he.2⟩
    rw [he.1, gNum, h, if_pos rfl, Int.toNat_natCast, getN_eq hb a m hm8 ham]
    rfl
  | false =>
    refine (get_no l A c at_ width w hr.2.1 h).mono fun e w' he => ⟨?_, he.2⟩
    rw [he.1, gNum, h]
    rfl
theorem bytes_str {l : List Int} (hb : Bys l) : bytesOf (strOfNums l) = l := by
  unfold bytesOf
  rw [strOfNums_data, List.map_map]
  conv => rhs; rw [← List.map_id l]
  apply List.map_congr_left
  intro x hx
  have := hb x hx
  simp only [Function.comp, UInt8.toNat_ofNat', id]
  omega
theorem rGet_any (l : List Int) (at_ width : Int) (w : World) (hb : Bys l) (hs : l.length ≤ 140737488355328) :
    Calls Try.prog 116 #[.string (strOfNums l), .int .i64 at_, .int .i64 width] w fun e w' => e = .returned (.tuple #[.int .u64 (gNum l at_ width), .bool (rightB width && insideB at_ width l.length)]) ∧ w = w' := by
  cases h : (rightB width && insideB at_ width l.length) with
  | true =>
    refine (rGet_yes (strOfNums l) at_ width w (by rw [strOfNums_size]; exact hs) (by rw [strOfNums_size]; exact h)).mono fun e w' he => ⟨?_, he.2⟩
    rw [he.1, gNum, h, if_pos rfl, bytes_str hb]
  | false =>
    refine (rGet_no (strOfNums l) at_ width w (by rw [strOfNums_size]; exact h)).mono fun e w' he => ⟨?_, he.2⟩
    rw [he.1, gNum, h]
    rfl

end Go.Proofs.Ytbfogcckbhkciaa.Hand
