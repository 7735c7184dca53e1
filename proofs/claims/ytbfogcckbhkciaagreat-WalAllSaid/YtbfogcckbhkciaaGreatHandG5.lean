/- What a claim needs of the walks and contracts, part 5. -/
import Derived.Test.YtbfogcckbhkciaaGreatProg
import Derived.WalkKit
import Derived.WalkSpells
import Derived.Below
import Derived.OwnWalk
import Derived.BigFrame
import Derived.KernelRfl
import Derived.LoopTactic
import Derived.Outline
import Derived.Laws.BitsAllLaws
import Derived.Deep.QuietTactic
import Derived.Test.YtbfogcckbhkciaaGreatHandG4
namespace Go.Proofs.YtbfogcckbhkciaaGreat.Hand
set_option linter.unusedVariables false
set_option linter.unusedSimpArgs false
open Go.RowKit Go.Maps Go.Proofs.YtbfogcckbhkciaaGreatW.PrintWords Go.Proofs.YtbfogcckbhkciaaGreatW.PrintLast Go.Proofs.YtbfogcckbhkciaaGreatW.PrintMore Go.Proofs.YtbfogcckbhkciaaGreat.PHandRP Go.Proofs.YtbfogcckbhkciaaGreat.PHandRD
set_option linter.unusedVariables false
set_option linter.unusedSimpArgs false
theorem r3has_more {l : List Int} (hl : l.length ≤ 9223372036854775807) (x : Int) : ∀ m j, l.length - j ≤ m → j ≤ l.length → (∀ i, i < j → rd l i ≠ x) → ecdysisref03_has.l0 (m + 1) l x (j : Int) = some (decide (x ∈ l)) := by
  intro m
  induction m with
  | zero => exact fun j hm hj ho => r3has_f hl x 0 j (by omega) hj ho
  | succ m ih =>
    intro j hm hj ho
    by_cases h : j = l.length
    · subst h
      rw [ecdysisref03_has.l0, if_neg (by omega)]
      have := r3has_f hl x 0 l.length (by omega) (by omega) ho
      rw [ecdysisref03_has.l0, if_neg (by omega)] at this
      exact this
    · rw [ecdysisref03_has.l0, if_pos (by omega), if_pos (by omega)]
      by_cases he : rd l (j : Int) = x
      · rw [if_pos he]
        refine congrArg some (decide_eq_true ?_).symm
        rw [← he, rd, Int.toNat_natCast, List.getD_eq_getElem?_getD, List.getElem?_eq_getElem (by omega)]
        exact List.getElem_mem _
      · rw [if_neg he, IntWalk.wrap64_in _ (by omega), show ((j : Int) + 1) = ((j + 1 : Nat) : Int) by omega]
        refine ih (j + 1) (by omega) (by omega) (fun i hi => ?_)
        by_cases h2 : i = j
        · rw [h2]; exact he
        · exact ho i (by omega)
theorem r3has_any {l : List Int} (hl : l.length ≤ 9223372036854775807) (x : Int) {k : Nat} (hk : l.length < k) : ecdysisref03_has.f k l x = some (decide (x ∈ l)) := by
  obtain ⟨m, rfl⟩ : ∃ m, k = m + 1 := ⟨k - 1, by omega⟩
  exact r3has_more hl x m 0 (by omega) (by omega) (fun i hi => absurd hi (Nat.not_lt_zero _))
abbrev S3 := S94
def wdG (z a m : Int) (ks : List Int) (i : Nat) (x : S3) : S3 :=
  if z = 2 then ⟨x.f0, x.f1, x.f2, x.f3 || (decide (0 < m ∧ 8 * (i : Int) < a + m ∧ a < 8 * i + 8) && x.f2)⟩
  else if z = 3 then (if x.f3 = true then ⟨x.f0, x.f0, false, false⟩ else x)
  else if z = 4 then (if x.f2 = true ∧ (i : Int) ∉ ks then ⟨x.f1, x.f1, false, false⟩ else ⟨x.f0, x.f0, false, false⟩)
  else x
theorem r3round {X : List S3} {i : Nat} (hi : i < X.length) (hX : X.length ≤ 8192) {x : S3} (hx : rd_T94 X (i : Int) = x) {z a m : Int} (ha : z = 2 → 0 ≤ a ∧ 0 ≤ m ∧ a + m ≤ 65536) (lg : Int) (bs ks : List Int) (hks : ks.length ≤ 9223372036854775807) {k : Nat} (hk : ks.length + 2 < k) :
    ecdysisref03_Do.l1 (k + 6) m X (i : Int) z a lg bs ks = ecdysisref03_Do.l1 k m (X.set i (wdG z a m ks i x)) ((i + 1 : Nat) : Int) z a lg bs ks := by
  have h1 : (i : Int) < (X.length : Int) := by omega
  have h0 : (0 : Int) ≤ (i : Int) := by omega
  have hw : wrap64 ((i : Int) + 1) = ((i + 1 : Nat) : Int) := wrap_suc hi hX
  have hw8 : wrap64 (8 * (i : Int)) = 8 * i := IntWalk.wrap64_in _ (by omega)
  have hw9 : wrap64 (8 * (i : Int) + 8) = 8 * i + 8 := IntWalk.wrap64_in _ (by omega)
  obtain ⟨x0, x1, x2, x3⟩ := x
  by_cases z2 : z = 2
  · obtain ⟨ha0, hm0, ham⟩ := ha z2
    have hwa : wrap64 (a + m) = a + m := IntWalk.wrap64_in _ (by omega)
    subst z2
    by_cases c1 : 0 < m
    · by_cases c2 : 8 * (i : Int) < a + m
      · by_cases c3 : a < 8 * (i : Int) + 8
        · cases x2 <;> cases x3 <;> simp [ecdysisref03_Do.l1, ecdysisref03_Do.j6, ecdysisref03_Do.j7, ecdysisref03_Do.j8, ecdysisref03_Do.j9, ecdysisref03_Do.j10, h1, h0, hw, hw8, hw9, hwa, hx, wdG, c1, c2, c3]
        · cases x2 <;> cases x3 <;> simp [ecdysisref03_Do.l1, ecdysisref03_Do.j6, ecdysisref03_Do.j7, ecdysisref03_Do.j8, ecdysisref03_Do.j9, ecdysisref03_Do.j10, h1, h0, hw, hw8, hw9, hwa, hx, wdG, c1, c2, c3]
      · cases x2 <;> cases x3 <;> simp [ecdysisref03_Do.l1, ecdysisref03_Do.j6, ecdysisref03_Do.j7, ecdysisref03_Do.j8, ecdysisref03_Do.j9, ecdysisref03_Do.j10, h1, h0, hw, hw8, hw9, hwa, hx, wdG, c1, c2]
    · cases x2 <;> cases x3 <;> simp [ecdysisref03_Do.l1, ecdysisref03_Do.j6, ecdysisref03_Do.j7, ecdysisref03_Do.j8, ecdysisref03_Do.j9, ecdysisref03_Do.j10, h1, h0, hw, hw8, hw9, hwa, hx, wdG, c1]
  · by_cases z3 : z = 3
    · subst z3
      cases x2 <;> cases x3 <;> simp [ecdysisref03_Do.l1, ecdysisref03_Do.j6, ecdysisref03_Do.j7, ecdysisref03_Do.j8, ecdysisref03_Do.j9, ecdysisref03_Do.j10, h1, h0, hw, hx, wdG]
    · by_cases z4 : z = 4
      · subst z4
        have hh := r3has_any hks (i : Int) (k := k + 1) (by omega)
        have hh2 := r3has_any hks (i : Int) (k := k + 2) (by omega)
        by_cases c : (i : Int) ∈ ks
        · cases x2 <;> cases x3 <;> simp [ecdysisref03_Do.l1, ecdysisref03_Do.j6, ecdysisref03_Do.j7, ecdysisref03_Do.j8, ecdysisref03_Do.j9, ecdysisref03_Do.j10, h1, h0, hw, hx, wdG, hh, hh2, c]
        · cases x2 <;> cases x3 <;> simp [ecdysisref03_Do.l1, ecdysisref03_Do.j6, ecdysisref03_Do.j7, ecdysisref03_Do.j8, ecdysisref03_Do.j9, ecdysisref03_Do.j10, h1, h0, hw, hx, wdG, hh, hh2, c]
      · cases x2 <;> cases x3 <;> simp [ecdysisref03_Do.l1, ecdysisref03_Do.j6, ecdysisref03_Do.j7, ecdysisref03_Do.j8, ecdysisref03_Do.j9, ecdysisref03_Do.j10, h1, h0, hw, hx, wdG, z2, z3, z4]
def wdM (d d' : Dev) (n i : Nat) : List S3 := (List.range n).map (fun j => if j < i then wdS d' j else wdS d j)
theorem wdM_length (d d' : Dev) (n i : Nat) : (wdM d d' n i).length = n := by simp [wdM]
theorem wdM_rd {d d' : Dev} {n i : Nat} (h : i < n) : rd_T94 (wdM d d' n i) (i : Int) = wdS d i := by
  rw [rd_T94, Int.toNat_natCast, List.getD_eq_getElem?_getD, wdM]
  simp [h]
theorem wdM_succ {d d' : Dev} {n i : Nat} (h : i < n) : (wdM d d' n i).set i (wdS d' i) = wdM d d' n (i + 1) := by
  apply List.ext_getElem?
  intro j
  by_cases hj : j = i
  · subst hj
    rw [List.getElem?_set_self (by rw [wdM_length]; exact h)]
    simp [wdM, h]
  · rw [List.getElem?_set_ne (by omega)]
    by_cases hn : j < n
    · simp only [wdM, List.getElem?_map, List.getElem?_range hn, Option.map_some]
      by_cases hi : j < i
      · rw [if_pos hi, if_pos (by omega)]
      · rw [if_neg hi, if_neg (by omega)]
    · rw [List.getElem?_eq_none (by rw [wdM_length]; omega), List.getElem?_eq_none (by rw [wdM_length]; omega)]
theorem wdM_zero (d d' : Dev) (n : Nat) : wdM d d' n 0 = wdL d n := List.map_congr_left (fun j _ => by rw [if_neg (Nat.not_lt_zero _)])
theorem wdM_full (d d' : Dev) (n : Nat) : wdM d d' n n = wdL d' n := List.map_congr_left (fun j hj => by rw [if_pos (List.mem_range.1 hj)])
theorem r3l1 {d d' : Dev} {n : Nat} (hn : n ≤ 8192) {z a m : Int} (ha : z = 2 → 0 ≤ a ∧ 0 ≤ m ∧ a + m ≤ 65536) (lg : Int) (bs ks : List Int) (hks : ks.length ≤ 9223372036854775807) (hG : ∀ i, i < n → wdG z a m ks i (wdS d i) = wdS d' i) :
    ∀ q i, q = n - i → i ≤ n → ecdysisref03_Do.l1 (6 * q + (ks.length + 10)) m (wdM d d' n i) (i : Int) z a lg bs ks = some (wdL d' n, ⟨#[]⟩, 0)
  | 0, i, hq, hi => by
    obtain rfl : i = n := by omega
    rw [show 6 * 0 + (ks.length + 10) = (ks.length + 9) + 1 by omega, ecdysisref03_Do.l1, if_neg (by rw [wdM_length]; omega), wdM_full]
  | q + 1, i, hq, hi => by
    rw [show 6 * (q + 1) + (ks.length + 10) = (6 * q + (ks.length + 10)) + 6 by omega, r3round (by rw [wdM_length]; omega) (by rw [wdM_length]; exact hn) (wdM_rd (by omega)) ha lg bs ks hks (by omega), hG i (by omega), wdM_succ (by omega)]
    exact r3l1 hn ha lg bs ks hks hG q (i + 1) (by omega) (by omega)
theorem r3j4 {d d' : Dev} {n : Nat} (hn : n ≤ 8192) {z a m : Int} (ha : z = 2 → 0 ≤ a ∧ 0 ≤ m ∧ a + m ≤ 65536) (lg : Int) (bs ks : List Int) (hks : ks.length ≤ 9223372036854775807) (hG : ∀ i, i < n → wdG z a m ks i (wdS d i) = wdS d' i) :
    ecdysisref03_Do.j4 (6 * n + (ks.length + 11)) (wdL d n) m z a lg bs ks = some (wdL d' n, ⟨#[]⟩, 0) := by
  rw [show 6 * n + (ks.length + 11) = (6 * n + (ks.length + 10)) + 1 by omega, ecdysisref03_Do.j4]
  simp only [Option.bind_some, List.nil_append, List.length_nil]
  rw [if_pos (by rw [wdL_length]; omega), ← wdM_zero d d' n]
  exact r3l1 hn ha lg bs ks hks hG n 0 (by omega) (by omega)
theorem r3l0 {d : Dev} {n : Nat} (hl : d.B.length = 8 * n) (hn : n ≤ 8192) {a : Nat} (lg : Int) {bs : List Int} (ks : List Int) (hin : a + bs.length ≤ 8 * n) (K : Nat) (R : List S3 × ByteArray × Int)
    (hJ : ecdysisref03_Do.j4 K (wdL (d.write a bs) n) (bs.length : Int) 0 (a : Int) lg bs ks = some R) (q : Nat) :
    ∀ j, q = bs.length - j → j ≤ bs.length → ecdysisref03_Do.l0 (K + q + 1) (wdL (d.write a (bs.take j)) n) (bs.length : Int) (j : Int) 0 (a : Int) lg bs ks = some R := by
  induction q with
  | zero =>
    intro j hq hj
    have e : bs.take j = bs := List.take_of_length_le (by omega)
    have h1 : ¬ ((j : Int) < (bs.length : Int)) := by omega
    rw [e]
    unfold ecdysisref03_Do.l0
    rw [if_neg h1]
    exact hJ
  | succ q ih =>
    intro j hq hj
    have hlt : j < bs.length := by omega
    have hlen : (bs.take j).length = j := by rw [List.length_take]; omega
    have hw : wrap64 ((a : Int) + j) = ((a + j : Nat) : Int) := by rw [IntWalk.wrap64_in _ (by omega)]; omega
    have hw1 : wrap64 ((j : Int) + 1) = ((j + 1 : Nat) : Int) := by rw [IntWalk.wrap64_in _ (by omega)]; omega
    have hrd : rd bs (j : Int) = bs[j] := by rw [rd, Int.toNat_natCast, List.getD_eq_getElem?_getD, List.getElem?_eq_getElem hlt]; rfl
    have hwl : (d.write a (bs.take j)).B.length = 8 * n := by rw [Dev.write]; exact (splice_length (by omega)).trans hl
    have hwf := r3write_f hwl hn (a := a + j) (by omega) bs[j]
    have hsn := write_snoc (d := d) (a := a) (n := n) (l := bs.take j) (x := bs[j]) hl (by omega)
    rw [hlen, List.take_append_getElem hlt] at hsn
    have h1 : (j : Int) < (bs.length : Int) := by omega
    have h2 : (0 : Int) ≤ (j : Int) := by omega
    have := ih (j + 1) (by omega) (by omega)
    unfold ecdysisref03_Do.l0
    rw [if_pos h1, if_pos h2, if_pos h1, hw, hrd, hwf, Option.bind_some, hw1, hsn]
    exact this
theorem r3do_f {d : Dev} {n : Nat} (hd : d.Ok) (hl : d.B.length = 8 * n) (x : OpP) (hz : x.z ≠ 1) (hks : x.ks.length ≤ 9223372036854775807) : ∃ k t e, ecdysisref03_Do.f k (wdL d n) x.z x.at_ x.long x.bs x.ks = some (wdL (stepD d x) n, t, e) := by
  have hn : n ≤ 8192 := by have := hd.max; omega
  obtain ⟨z, a, lg, A1, c1, bs, A2, c2, ks⟩ := x
  simp only at hz hks ⊢
  have hbsE : insE d.B.length a bs.length = 0 → ∃ a' : Nat, a = a' ∧ a' + bs.length ≤ 8 * n := fun h => by
    obtain ⟨_, h2, h3⟩ := ins_ok h
    obtain ⟨a', rfl⟩ := Int.eq_ofNat_of_zero_le h2
    exact ⟨a', rfl, by omega⟩
  by_cases z0 : z = 0
  · subst z0
    by_cases he : insE d.B.length a bs.length = 0
    · obtain ⟨a', rfl, hin⟩ := hbsE he
      have hst : stepD d ⟨0, (a' : Int), lg, A1, c1, bs, A2, c2, ks⟩ = d.write a' bs := by simp only [stepD]; rw [if_pos trivial, if_pos he, Int.toNat_natCast]
      have h0 := r3l0 hl hn lg ks hin _ _ (r3j4 (d := d.write a' bs) (d' := d.write a' bs) hn (z := 0) (a := a') (m := (bs.length : Int)) (fun h => absurd h (by decide)) lg bs ks hks (fun i hi => by simp [wdG])) bs.length 0 (by omega) (Nat.zero_le _)
      rw [List.take_zero, write_nil] at h0
      refine ⟨(6 * n + (ks.length + 11)) + bs.length + 1 + 3, ⟨#[]⟩, 0, ?_⟩
      rw [hst, ecdysisref03_Do.f, if_pos rfl, ecdysisref03_Do.j0, if_pos (by decide), ecdysisref03_Do.j1, if_pos (by decide), r3inside_f hl hn, he, Option.bind_some, if_pos rfl, ecdysisref03_Do.j2, if_pos rfl]
      exact h0
    · have hst : stepD d ⟨0, a, lg, A1, c1, bs, A2, c2, ks⟩ = d := by simp only [stepD]; rw [if_pos trivial, if_neg he]
      refine ⟨3, ⟨#[]⟩, insE d.B.length a bs.length, ?_⟩
      rw [hst, ecdysisref03_Do.f, if_pos rfl, ecdysisref03_Do.j0, if_pos (by decide), ecdysisref03_Do.j1, if_pos (by decide), r3inside_f hl hn, Option.bind_some, if_neg he]
  · by_cases z2 : z = 2
    · subst z2
      by_cases he : insE d.B.length a lg = 0
      · obtain ⟨h1, h2, h3⟩ := ins_ok he
        have hst : stepD d ⟨2, a, lg, A1, c1, bs, A2, c2, ks⟩ = d.flush a.toNat lg.toNat := by simp only [stepD]; rw [if_neg (by decide), if_pos trivial, if_pos he]
        have h0 := r3j4 (d := d) (d' := d.flush a.toNat lg.toNat) hn (z := 2) (a := a) (m := lg) (fun _ => ⟨h2, h1, by have := hd.max; omega⟩) lg bs ks hks (fun i hi => by
          have hh : hitB a.toNat lg.toNat i = decide (0 < lg ∧ 8 * (i : Int) < a + lg ∧ a < 8 * i + 8) := by rw [hitB]; exact decide_eq_decide.2 (by omega)
          simp [wdG, wdS, Dev.flush, hh])
        refine ⟨6 * n + (ks.length + 11) + 3, ⟨#[]⟩, 0, ?_⟩
        rw [hst, ecdysisref03_Do.f, if_neg z0, ecdysisref03_Do.j0, if_pos (by decide), ecdysisref03_Do.j1, if_pos (by decide), r3inside_f hl hn, he, Option.bind_some, if_pos rfl, ecdysisref03_Do.j2, if_neg z0, if_neg (by decide)]
        exact h0
      · have hst : stepD d ⟨2, a, lg, A1, c1, bs, A2, c2, ks⟩ = d := by simp only [stepD]; rw [if_neg (by decide), if_pos trivial, if_neg he]
        refine ⟨3, ⟨#[]⟩, insE d.B.length a lg, ?_⟩
        rw [hst, ecdysisref03_Do.f, if_neg z0, ecdysisref03_Do.j0, if_pos (by decide), ecdysisref03_Do.j1, if_pos (by decide), r3inside_f hl hn, Option.bind_some, if_neg he]
    · have hG : ∀ i, i < n → wdG z a lg ks i (wdS d i) = wdS (stepD d ⟨z, a, lg, A1, c1, bs, A2, c2, ks⟩) i := by
        intro i hi
        simp only [stepD]
        rw [if_neg z0, if_neg z2]
        by_cases z3 : z = 3
        · subst z3
          rw [if_pos rfl]
          cases hF : d.F i <;> simp [wdG, wdS, Dev.fence, hF]
        · rw [if_neg z3]
          by_cases z4 : z = 4
          · subst z4
            rw [if_pos rfl]
            have hw : word (d.crash ks).B i = d.lossW ks i := word_mapW (fun j hj => hd.lossW ks (by omega)) (by omega)
            have hS : (d.crash ks).S i = none := rfl
            have hF : (d.crash ks).F i = false := rfl
            rw [wdS, wdS, hw, hS, hF, Dev.lossW]
            cases hs : d.S i with
            | none => simp [wdG, hs]
            | some c =>
              by_cases hm : (i : Int) ∈ ks
              · simp [wdG, hs, hm]
              · simp [wdG, hs, hm]
          · rw [if_neg z4]
            simp [wdG, z2, z3, z4]
      have h0 := r3j4 (d := d) (d' := stepD d ⟨z, a, lg, A1, c1, bs, A2, c2, ks⟩) hn (z := z) (a := a) (m := lg) (fun h => absurd h z2) lg bs ks hks hG
      refine ⟨6 * n + (ks.length + 11) + 3, ⟨#[]⟩, 0, ?_⟩
      have h1 : ecdysisref03_Do.j1 (6 * n + (ks.length + 11) + 2) (wdL d n) lg false z a lg bs ks = some (wdL (stepD d ⟨z, a, lg, A1, c1, bs, A2, c2, ks⟩) n, ⟨#[]⟩, 0) := by
        rw [ecdysisref03_Do.j1, if_neg (by decide), ecdysisref03_Do.j2, if_neg z0, if_neg hz]
        exact h0
      rw [ecdysisref03_Do.f, if_neg z0, ecdysisref03_Do.j0]
      by_cases hz0 : z ≥ 0
      · rw [if_pos hz0, show decide (z ≤ 2) = false from decide_eq_false (by omega)]
        exact h1
      · rw [if_neg hz0]
        exact h1
end Go.Proofs.YtbfogcckbhkciaaGreat.Hand
namespace Go.Proofs.YtbfogcckbhkciaaGreat.Hand
set_option linter.unusedVariables false
set_option linter.unusedSimpArgs false
open Go.RowKit Go.Maps Go.Proofs.YtbfogcckbhkciaaGreatW.PrintWords Go.Proofs.YtbfogcckbhkciaaGreatW.PrintLast Go.Proofs.YtbfogcckbhkciaaGreatW.PrintMore Go.Proofs.YtbfogcckbhkciaaGreat.PHandRP Go.Proofs.YtbfogcckbhkciaaGreat.PHandRD Go.Proofs.YtbfogcckbhkciaaGreat.PHandRE
set_option linter.unusedVariables false
set_option linter.unusedSimpArgs false
abbrev RowV (w : World) (b : Nat) (v : Value) (d : Dev) (n : Nat) : Prop := Kd.V k94 94 w b (fun k => b ≤ k) v (wdL d n)
def DoesV (w : World) (p : Nat) (v : Value) (s f : Nat) (d : Dev) (e : Ending) (w' : World) : Prop := e = .returned (.tuple #[]) ∧ HasD w' p v s f d ∧ Fr (OwnD v s f) w w'
def MadeW (w : World) (e : Ending) (w' : World) : Prop :=
  (e = .returned (.tuple #[.pointer none, .slice none 0 0, .bool false]) ∧ Below w.heap.size w w') ∨
  ∃ (p : Nat) (u : Value) (s f : Nat) (v : Value) (d : Dev) (n b : Nat), e = .returned (.tuple #[.pointer (some ⟨p, 0, none⟩), v, .bool true]) ∧ HasD w' p u s f d ∧ d.B.length = 8 * n ∧ RowV w' b v d n ∧
    (∀ k, OwnD u s f k → k < b) ∧ b ≤ w'.heap.size ∧ w.heap.size ≤ p ∧ (∀ k, OwnD u s f k → w.heap.size ≤ k) ∧ Below w.heap.size w w'
theorem r3new_calls (w : World) (B : List Int) {n : Nat} (hB : B.length = 8 * n) (hn : n ≤ 8192) :
    Calls Tryz.prog 18 #[.string (strOfNums B)] w fun e w' => ∃ v, e = .returned (.tuple #[v, .bool true]) ∧ RowV w' w.heap.size v (Dev.of B) n ∧ Below w.heap.size w w' := by
  have hf : ecdysisref03_New.f (n + 1 + 1) (strOfNums B) = some (wdL (Dev.of B) n, true) := by
    have h0 := r3new_l hB hn n 0 (by omega) (Nat.zero_le _)
    rw [ecdysisref03_New.f, strOfNums_size, if_pos (by omega), ecdysisref03_New.j0, if_neg (by simp; omega)]
    exact h0
  refine (ecdysisref03_New.calls _ _ _ _ w hf).mono ?_
  rintro e w' ⟨v, rfl, hr, hb⟩
  exact ⟨v, rfl, Kd.R_V (Kd.R_mono (Kd.R_bound hr) (fun k hk => hk.2.1)), hb⟩
theorem r3new_bad (w : World) (B : List Int) (h : B.length % 8 ≠ 0 ∨ 65536 < B.length) :
    Calls Tryz.prog 18 #[.string (strOfNums B)] w fun e w' => ∃ v, e = .returned (.tuple #[v, .bool false]) ∧ Below w.heap.size w w' := by
  have hf : ecdysisref03_New.f 1 (strOfNums B) = some ([], false) := by
    rw [ecdysisref03_New.f, strOfNums_size]
    by_cases h1 : ((B.length : Nat) : Int) % 8 = 0
    · rw [if_pos h1, ecdysisref03_New.j0, if_pos (by simp; omega)]
    · rw [if_neg h1, ecdysisref03_New.j0, if_pos rfl]
  refine (ecdysisref03_New.calls _ _ _ _ w hf).mono ?_
  rintro e w' ⟨v, rfl, hr, hb⟩
  exact ⟨v, rfl, hb⟩
theorem r3bytes_calls {w : World} {b n : Nat} {v : Value} {d : Dev} (h : RowV w b v d n) (hl : d.B.length = 8 * n) (hn : n ≤ 8192) :
    Calls Tryz.prog 27 #[v] w fun e w' => e = .returned (.string (strOfNums d.B)) ∧ Drawn0 w w' := by
  obtain ⟨A, c, rfl⟩ := Kd.V_slice h
  obtain ⟨_, hc, hC⟩ := Kd.V_reads' h
  exact ecdysisref03_Bytes.calls _ A c (wdL d n) _ w hC hc (r3bytes_f hl hn n 0 (by omega) (Nat.zero_le _))
theorem r3loose_calls {w : World} {b n : Nat} {v : Value} {d : Dev} (h : RowV w b v d n) (hl : d.B.length = 8 * n) (hn : n ≤ 8192) :
    Calls Tryz.prog 44 #[v] w fun e w' => ∃ u, e = .returned u ∧ Kd.R (Kd.int .i64) 3 w' w.heap.size (fun _ => True) u (looseM d) ∧ Below w.heap.size w w' := by
  obtain ⟨A, c, rfl⟩ := Kd.V_slice h
  obtain ⟨_, hc, hC⟩ := Kd.V_reads' h
  have h0 := r3loose_f (d := d) hn n 0 (by omega) (Nat.zero_le _)
  rw [show looseM d = ((List.range n).filter fun k => (d.S k).isSome).map fun (k : Nat) => (k : Int) from by rw [looseM, hl, Nat.mul_div_cancel_left _ (by decide)]]
  exact ecdysisref03_Loose.calls _ A c (wdL d n) _ w hC hc h0
theorem r3do_calls {w : World} {b n : Nat} {v : Value} {d : Dev} (hd : d.Ok) (hl : d.B.length = 8 * n) (h : RowV w b v d n) (hb : b ≤ w.heap.size) (x : OpP) (hx : WfPo w x) (hck : x.ks.length ≤ x.c2) (hz : x.z ≠ 1) :
    Calls Tryz.prog 15 #[v, .agg #[.int .i64 x.z, .int .i64 x.at_, .int .i64 x.long, .slice x.A1 x.bs.length x.c1, .slice x.A2 x.ks.length x.c2]] w fun e w' => ∃ (v' : Value) (t : ByteArray) (e2 : Int), e = .returned (.tuple #[v', .string t, .int .i64 e2]) ∧ RowV w' b v' (stepD d x) n ∧ Below w.heap.size w w' := by
  obtain ⟨A, c, rfl⟩ := Kd.V_slice h
  have hkl : x.ks.length ≤ 9223372036854775807 := by have := hx.rk.2.1; omega
  obtain ⟨k, t, e2, hf⟩ := r3do_f hd hl x hz hkl
  refine (ecdysisref03_Do.calls k (fun k => b ≤ k) A c (wdL d n) x.z x.at_ x.long x.A1 x.c1 x.bs x.A2 x.c2 x.ks _ _ _ w h (Kd.C_of_reads (d := (0 : Int)) hx.rb) hx.cb (Kd.C_of_reads (d := (0 : Int)) hx.rk) hck hf).mono ?_
  rintro e w' ⟨v', rfl, hv, hbb⟩
  exact ⟨v', t, e2, rfl, Kd.V_mono hv (fun k hk => hk.elim id (fun h => Nat.le_trans hb h)), hbb⟩
theorem runD_len {d : Dev} {w : World} {os : List OpP} (hd : d.Ok) {k : Nat} (h : ∀ o ∈ os.take k, WfPo w o) : (runD d (os.take k)).B.length = d.B.length := by
  have : ∀ (os : List OpP) (d : Dev), d.Ok → (∀ o ∈ os, WfPo w o) → (runD d os).B.length = d.B.length := by
    intro os
    induction os with
    | nil => exact fun d _ _ => rfl
    | cons o os ih =>
      intro d hd ho
      have h1 := stepD_ok hd (ho o (List.mem_cons_self ..))
      exact (ih (stepD d o) h1 (fun x hx => ho x (List.mem_cons_of_mem _ hx))).trans (stepD_len hd o)
  exact this _ _ hd h
end Go.Proofs.YtbfogcckbhkciaaGreat.Hand
namespace Go.Proofs.YtbfogcckbhkciaaGreat.Hand
set_option linter.unusedVariables false
set_option linter.unusedSimpArgs false
open Go.RowKit Go.Proofs.YtbfogcckbhkciaaGreatW.PrintWords
def bitN (n : Int) : Int := if n / 32768 = 1 then bits .xor .u16 (IntKind.u16.wrap (n * 2)) 4129 else IntKind.u16.wrap (n * 2)
theorem bitN_yes {n : Int} (h : n / 32768 = 1) : bitN n = bits .xor .u16 (IntKind.u16.wrap (n * 2)) 4129 := if_pos h
theorem bitN_no {n : Int} (h : ¬ n / 32768 = 1) : bitN n = IntKind.u16.wrap (n * 2) := if_neg h
theorem bit_calls (w : World) (g : Nat) (n : Int) (hg : w.heap[g]? = some (.cells #[.int .u16 n] 136 (0, 0))) :
    Calls Tryz.prog 83 #[.pointer (some ⟨g, 0, none⟩)] w fun e w' => e = .returned (.tuple #[]) ∧ w'.heap[g]? = some (.cells #[.int .u16 (bitN n)] 136 (0, 0)) ∧ Fr (fun b => b = g) w w' := by
  have hc := cell_of_one hg
  have hf := free_of_one hg
  have HG := Aside0.mk hg
  clear hg
  by_cases h : n / 32768 = 1
  · have HB := Aside0.mk (bitN_yes h)
    have hb1 : (n / 32768 == 1) = true := by simpa using h
    clear h
    go_enter Tryz.func83, Tryz.ntmps83
    go_wp2
    go_end0
    exact ⟨rfl, by rw [HB.out]; exact one_setCell (one_setCell HG.out), ((Fr.refl (fun b => b = g) w).setCell (p := ⟨g, 0, none⟩) (.inl rfl) _).setCell (p := ⟨g, 0, none⟩) (.inl rfl) _⟩
  · have HB := Aside0.mk (bitN_no h)
    have hb1 : (n / 32768 == 1) = false := by simpa using h
    clear h
    go_enter Tryz.func83, Tryz.ntmps83
    go_wp2
    go_end0
    exact ⟨rfl, by rw [HB.out]; exact one_setCell HG.out, (Fr.refl (fun b => b = g) w).setCell (p := ⟨g, 0, none⟩) (.inl rfl) _⟩
def bitsN (n : Int) : Nat → Int
  | 0 => n
  | k + 1 => bitN (bitsN n k)
def byteN (n c : Int) : Int := bitsN (bits .xor .u16 n (IntKind.u16.wrap (IntKind.u16.wrap c * 256))) 8
def regN (sum : Int) (l : List Int) : Nat → Int
  | 0 => IntKind.u16.wrap sum
  | k + 1 => byteN (regN sum l k) (rd l k)
def moreF (sum : Int) (l : List Int) : Option Int := if l.length ≤ 140737488355328 then some (wrap64 (regN sum l l.length)) else none
set_option maxHeartbeats 1000000 in
theorem more_calls (sum : Int) (A : Option Addr) (c : Nat) (l : List Int) (r : Int) (w : World) (hr0 : Kd.C (Kd.int .u8) w A l.length l) (h : moreF sum l = some r) :
    Calls Tryz.prog 78 #[.int .i64 sum, .slice A l.length c] w fun e w' => e = .returned (.int .i64 r) ∧ Below w.heap.size w w' := by
  have HR := Aside0.mk (Kd.reads_of_C (d := (0 : Int)) hr0)
  clear hr0
  obtain ⟨hl, rfl⟩ : l.length ≤ 140737488355328 ∧ wrap64 (regN sum l l.length) = r := by
    unfold moreF at h
    split at h
    · exact ⟨‹_›, Option.some.inj h⟩
    · exact absurd h (by simp)
  clear h
  go_enter Tryz.func78, Tryz.ntmps78
  go_wp2
  go_loopw [14] (fun i wr => ∃ k : Nat, k ≤ l.length ∧ i = .int .i64 k ∧ wr.heap[w.heap.size]? = some (.cells #[.int .u16 (regN sum l k)] 136 (0, 0)) ∧ Below w.heap.size w wr) (fun i _ => l.length - (intOf i).toNat)
  case atStart => exact ⟨0, Nat.zero_le _, rfl, heap_alloc_new w _, below_alloc (Below.refl _ _) _⟩
  case round =>
    obtain ⟨k, hk, rfl, hg, hb⟩ := hrel
    have hc := cell_of_one hg
    have hf := free_of_one hg
    by_cases hlt : k < l.length
    · obtain ⟨ad, rfl, hx⟩ := HR.out.2.2 (by omega)
      have hx1 : wr.cell? (ad.add k) = some (.int .u8 (rd l k)) := (hb.cell (World.block_lt_of_cell? w _ (hx k hlt))).trans (hx k hlt)
      clear hx
      have HG := Aside0.mk hg
      have HB := Aside0.mk hb
      clear hg hb
      go_wp2
      go_loopw [23] (fun i wr2 => ∃ j : Nat, j ≤ 8 ∧ i = .int .i64 j ∧ wr2.heap[w.heap.size]? = some (.cells #[.int .u16 (bitsN (bits .xor .u16 (regN sum l k) (IntKind.u16.wrap (IntKind.u16.wrap (rd l k) * 256))) j)] 136 (0, 0)) ∧ Below w.heap.size w wr2) (fun i _ => 8 - (intOf i).toNat)
      case atStart => exact ⟨0, Nat.zero_le _, rfl, one_setCell HG.out, HB.out.setCell (p := ⟨w.heap.size, 0, none⟩) (Nat.le_refl _) _⟩
      case round =>
        obtain ⟨j, hj, rfl, hg, hb⟩ := hrel
        have HG := Aside0.mk hg
        have HB := Aside0.mk hb
        clear hg hb
        by_cases hj8 : j < 8
        · go_wp2_with (go_at_call 83; refine (bit_calls _ _ _ HG.out).mono ?_; rintro e w' ⟨rfl, hg', hfr⟩; have HG' := Aside0.mk hg'; have HF := Aside0.mk hfr; clear hg' hfr)
          go_roundw
          case rel => exact ⟨j + 1, by omega, by go_num, HG'.out, HB.out.trans (HF.out.below _ HB.out.size (fun b hb => by subst hb; exact Nat.le_refl _))⟩
          case measure => simp [intOf]; omega
        · obtain rfl : j = 8 := by omega
          go_wp2
          go_roundw
          case rel => exact ⟨k + 1, by omega, by go_num, HG.out, HB.out⟩
          case measure => simp [intOf]; omega
    · obtain rfl : k = l.length := by omega
      go_wp2
      go_ret
      exact ⟨rfl, hb⟩
end Go.Proofs.YtbfogcckbhkciaaGreat.Hand
namespace Go.Proofs.YtbfogcckbhkciaaGreat.Hand
set_option linter.unusedVariables false
set_option linter.unusedSimpArgs false
open Go.RowKit Go.Proofs.YtbfogcckbhkciaaGreatW.PrintWords
abbrev V16 := BitVec 16
def tI (x : V16) : Int := (x.toNat : Int)
theorem tI_lt (x : V16) : 0 ≤ tI x ∧ tI x < 65536 := ⟨Int.natCast_nonneg _, by have := x.isLt; unfold tI; omega⟩
theorem tI_toNat (x : V16) : (tI x).toNat = x.toNat := Int.toNat_natCast _
theorem tI_inj {x y : V16} (h : tI x = tI y) : x = y := BitVec.eq_of_toNat_eq (by unfold tI at h; omega)
theorem tI_xor (x y : V16) : bits .xor .u16 (tI x) (tI y) = tI (x ^^^ y) := by
  have := tI_lt x; have := tI_lt y
  rw [u16_xor _ _ (by omega) (by omega) (by omega) (by omega), tI_toNat, tI_toNat, tI, BitVec.toNat_xor]
theorem tI_ofInt (n : Int) : tI (BitVec.ofInt 16 n) = n % 65536 := by
  rw [tI, BitVec.toNat_ofInt]
  have : 0 ≤ n % 65536 := Int.emod_nonneg _ (by decide)
  show ((n % ((2 ^ 16 : Nat) : Int)).toNat : Int) = _
  rw [show (((2 ^ 16 : Nat) : Int)) = 65536 from rfl]
  omega
theorem tI_shl (x : V16) (k : Nat) : tI (x <<< k) = tI x * 2 ^ k % 65536 := by
  rw [tI, BitVec.toNat_shiftLeft, Nat.shiftLeft_eq]
  unfold tI
  rw [Int.natCast_emod, Int.natCast_mul, Int.natCast_pow]
  rfl
def bitV (x : V16) : V16 := if x.msb then (x <<< 1) ^^^ 4129#16 else x <<< 1
theorem bit_v (x : V16) : bitN (tI x) = tI (bitV x) := by
  have h1 := tI_lt x
  have hm : x.msb = decide (tI x / 32768 = 1) := by
    rw [BitVec.msb_eq_decide]
    refine decide_eq_decide.2 ?_
    unfold tI at *
    constructor <;> intro h <;> omega
  have h2 : IntKind.u16.wrap (tI x * 2) = tI (x <<< 1) := by rw [tI_shl, IntKind.wrap_u16]; rfl
  rw [bitN, bitV, hm, h2]
  by_cases h : tI x / 32768 = 1
  · rw [if_pos h, if_pos (by simpa using h), ← tI_xor]
    rfl
  · rw [if_neg h, if_neg (by simpa using h)]
def bitsV (x : V16) : Nat → V16
  | 0 => x
  | k + 1 => bitV (bitsV x k)
theorem bits_v (x : V16) (k : Nat) : bitsN (tI x) k = tI (bitsV x k) := by
  induction k with
  | zero => rfl
  | succ k ih => rw [bitsN, ih, bit_v]; rfl
def byteV (x : V16) (c : Int) : V16 := bitsV (x ^^^ (BitVec.ofInt 16 c <<< 8)) 8
theorem byte_v (x : V16) (c : Int) : byteN (tI x) c = tI (byteV x c) := by
  have h2 : IntKind.u16.wrap (IntKind.u16.wrap c * 256) = tI (BitVec.ofInt 16 c <<< 8) := by
    rw [tI_shl, tI_ofInt, IntKind.wrap_u16, IntKind.wrap_u16]; rfl
  rw [byteN, h2, tI_xor, bits_v]; rfl
def crcV (x : V16) (l : List Int) : V16 := l.foldl byteV x
theorem crcV_append (x : V16) (a b : List Int) : crcV x (a ++ b) = crcV (crcV x a) b := List.foldl_append
theorem take_rd {l : List Int} {k : Nat} (h : k < l.length) : l.take (k + 1) = l.take k ++ [rd l k] := by
  rw [List.take_add_one]
  congr 1
  rw [rd]
  simp [h]
theorem reg_v (sum : Int) (l : List Int) (k : Nat) (h : k ≤ l.length) : regN sum l k = tI (crcV (BitVec.ofInt 16 sum) (l.take k)) := by
  induction k with
  | zero => rw [regN, IntKind.wrap_u16, List.take_zero, ← tI_ofInt]; rfl
  | succ k ih =>
    rw [regN, ih (by omega), byte_v, take_rd (by omega), crcV_append]
    rfl
theorem more_v (sum : Int) (A : Option Addr) (c : Nat) (l : List Int) (w : World) (hr : ReadsInt w .u8 A l.length l) (hl : l.length ≤ 140737488355328) :
    Calls Tryz.prog 78 #[.int .i64 sum, .slice A l.length c] w fun e w' => e = .returned (.int .i64 (tI (crcV (BitVec.ofInt 16 sum) l))) ∧ Below w.heap.size w w' := by
  have hw : wrap64 (regN sum l l.length) = tI (crcV (BitVec.ofInt 16 sum) l) := by
    rw [reg_v sum l _ (Nat.le_refl _), List.take_of_length_le (Nat.le_refl _)]
    have := tI_lt (crcV (BitVec.ofInt 16 sum) l)
    unfold wrap64
    omega
  exact more_calls sum A c l _ w (Kd.C_of_reads (d := (0 : Int)) (h1 := fun _ => rfl) hr) (by rw [moreF, if_pos hl, hw])
end Go.Proofs.YtbfogcckbhkciaaGreat.Hand
namespace Go.Proofs.YtbfogcckbhkciaaGreat.Hand
set_option linter.unusedVariables false
set_option linter.unusedSimpArgs false
open Go.RowKit Go.Proofs.YtbfogcckbhkciaaGreatW.PrintWords
theorem xor_step (x k : Nat) : x % 2 ^ (k + 1) = x % 2 ^ k + 2 ^ k * (x / 2 ^ k % 2) := by
  rw [Nat.pow_succ, Nat.mod_mul]
theorem xor_div (a b k : Nat) : (a ^^^ b) / 2 ^ k = a / 2 ^ k ^^^ b / 2 ^ k := by
  rw [← Nat.shiftRight_eq_div_pow, ← Nat.shiftRight_eq_div_pow, ← Nat.shiftRight_eq_div_pow, Nat.shiftRight_xor_distrib]
theorem xor_odd (a b : Nat) : (a ^^^ b) % 2 = if a % 2 = b % 2 then 0 else 1 := by
  have := Nat.xor_mod_two_pow (a := a) (b := b) (n := 1)
  rw [Nat.pow_one] at this
  rw [this]
  rcases Nat.mod_two_eq_zero_or_one a with h | h <;> rcases Nat.mod_two_eq_zero_or_one b with h2 | h2 <;> rw [h, h2] <;> rfl
theorem rXor_calls (x y : V16) (w : World) : Calls Tryz.prog 76 #[.int .i64 (tI x), .int .i64 (tI y)] w fun e w' => e = .returned (.int .i64 (tI (x ^^^ y))) ∧ w = w' := by
  have hx := x.isLt
  have hy := y.isLt
  rw [show tI (x ^^^ y) = ((x.toNat ^^^ y.toNat : Nat) : Int) by rw [tI, BitVec.toNat_xor]]
  unfold tI at *
  have HX : Aside0 ((x.toNat ^^^ y.toNat) < 65536) := ⟨Nat.xor_lt_two_pow (n := 16) hx hy⟩
  generalize x.toNat = A at *
  generalize y.toNat = B at *
  go_enter Tryz.func76, Tryz.ntmps76
  go_wp2
  go_loop [0, 1, 5, 6, 7] (fun a b o t i => ∃ k p q m u : Nat, k ≤ 16 ∧ i = .int .i64 k ∧ a = .int .i64 p ∧ b = .int .i64 q ∧ o = .int .i64 m ∧ t = .int .i64 u ∧ Aside0 (p = A / 2 ^ k ∧ q = B / 2 ^ k ∧ m = (A ^^^ B) % 2 ^ k ∧ u = 2 ^ k)) (fun _ _ _ _ i => (16 - intOf i).toNat)
  case atStart => exact ⟨0, A, B, 0, 1, by omega, rfl, rfl, rfl, rfl, rfl, ⟨by simp, by simp, by simp [Nat.mod_one], rfl⟩⟩
  case round =>
    obtain ⟨k, p, q, m, u, hk, rfl, rfl, rfl, rfl, rfl, HP⟩ := hrel
    by_cases hlt : k < 16
    · have hu : u ≤ 32768 := by
        rw [HP.out.2.2.2]
        exact Nat.pow_le_pow_right (n := 2) (by decide) (show k ≤ 15 by omega)
      have hm : m < u := by
        rw [HP.out.2.2.1, HP.out.2.2.2]
        exact Nat.mod_lt _ (Nat.pow_pos (by decide))
      have hp : p < 65536 := by rw [HP.out.1]; exact Nat.lt_of_le_of_lt (Nat.div_le_self _ _) hx
      have hq : q < 65536 := by rw [HP.out.2.1]; exact Nat.lt_of_le_of_lt (Nat.div_le_self _ _) hy
      have HS := Aside0.mk (xor_step (A ^^^ B) k)
      rw [xor_div, ← HP.out.1, ← HP.out.2.1, ← HP.out.2.2.1, ← HP.out.2.2.2, xor_odd] at HS
      by_cases hpq : p % 2 = q % 2
      · have hd : (p : Int).tmod 2 = (q : Int).tmod 2 := by rw [Int.tmod_eq_emod_of_nonneg (by omega), Int.tmod_eq_emod_of_nonneg (by omega)]; omega
        rw [if_pos hpq] at HS
        clear hpq
        go_wp2
        go_round
        case rel => exact ⟨k + 1, p / 2, q / 2, m, u * 2, by omega, by go_num, congrArg _ (by omega), congrArg _ (by omega), rfl, congrArg _ (by omega), ⟨by rw [HP.out.1, Nat.div_div_eq_div_mul, Nat.pow_succ], by rw [HP.out.2.1, Nat.div_div_eq_div_mul, Nat.pow_succ], by rw [HS.out]; omega, by rw [HP.out.2.2.2, Nat.pow_succ]⟩⟩
        case measure => simp [intOf]; omega
      · rw [if_neg hpq] at HS
        go_wp2
        go_round
        case rel => exact ⟨k + 1, p / 2, q / 2, m + u, u * 2, by omega, by go_num, congrArg _ (by omega), congrArg _ (by omega), congrArg _ (by omega), congrArg _ (by omega), ⟨by rw [HP.out.1, Nat.div_div_eq_div_mul, Nat.pow_succ], by rw [HP.out.2.1, Nat.div_div_eq_div_mul, Nat.pow_succ], by rw [HS.out]; omega, by rw [HP.out.2.2.2, Nat.pow_succ]⟩⟩
        case measure => simp [intOf]; omega
    · obtain rfl : k = 16 := by omega
      go_wp2
      go_ret
      refine ⟨?_, rfl⟩
      have h1 := HP.out.2.2.1
      have h2 := HX.out
      rw [Nat.mod_eq_of_lt h2] at h1
      subst h1
      rfl
theorem rLow_calls (n : Int) (w : World) : Calls Tryz.prog 75 #[.int .i64 n] w fun e w' => e = .returned (.int .i64 (tI (BitVec.ofInt 16 n))) ∧ w = w' := by
  rw [tI_ofInt]
  have t1 := Int.tmod_lt_of_pos n (b := 65536) (by decide)
  have t2 := Int.lt_tmod_of_pos n (b := 65536) (by decide)
  have HT := Aside0.mk (Int.tmod_add_mul_tdiv n 65536)
  by_cases h : n.tmod 65536 < 0
  · go_enter Tryz.func75, Tryz.ntmps75
    go_wp2
    go_ret
    refine ⟨congrArg (fun x => Ending.returned (Value.int .i64 x)) ?_, rfl⟩
    have := HT.out
    omega
  · go_enter Tryz.func75, Tryz.ntmps75
    go_wp2
    go_ret
    refine ⟨congrArg (fun x => Ending.returned (Value.int .i64 x)) ?_, rfl⟩
    have := HT.out
    omega
theorem calls_at' {P : Program} {f : FuncId} {args args' : Array Value} {w : World} {Q : Ending → World → Prop} (h : args = args') (hc : Calls P f args' w Q) : Calls P f args w Q := h ▸ hc
theorem tI_two (x : V16) : tI (x <<< 1) = if 32768 ≤ tI x then tI x * 2 - 65536 else tI x * 2 := by
  have := tI_lt x
  rw [tI_shl]
  split <;> omega
theorem bitV_if (x : V16) : bitV x = if 32768 ≤ tI x then (x <<< 1) ^^^ 4129#16 else x <<< 1 := by
  have : x.msb = decide (32768 ≤ tI x) := by
    rw [BitVec.msb_eq_decide]
    refine decide_eq_decide.2 ?_
    unfold tI
    constructor <;> intro h <;> omega
  rw [bitV, this]
  simp
theorem rMore_calls (sum : Int) (s : ByteArray) (hs : s.size ≤ 140737488355328) (w : World) :
    Calls Tryz.prog 58 #[.int .i64 sum, .string s] w fun e w' => e = .returned (.int .i64 (tI (crcV (BitVec.ofInt 16 sum) (bytesOf s)))) ∧ w = w' := by
  go_enter Tryz.func58, Tryz.ntmps58
  go_wp2_with (go_at_call 75; refine (rLow_calls sum _).mono ?_; rintro e w1 ⟨rfl, rfl⟩)
  have hL := bytesOf_length s
  go_loop [5, 6] (fun n i => ∃ (k : Nat) (x : V16), k ≤ s.size ∧ i = .int .i64 k ∧ n = .int .i64 (tI x) ∧ Aside0 (x = crcV (BitVec.ofInt 16 sum) ((bytesOf s).take k))) (fun _ i => (s.size - intOf i).toNat)
  case atStart => exact ⟨0, _, Nat.zero_le _, rfl, rfl, ⟨rfl⟩⟩
  case round =>
    obtain ⟨k, x, hk, rfl, rfl, HX⟩ := hrel
    by_cases hlt : k < s.size
    · have hb : ∀ h : k < s.size, ((s[k]'h).toNat : Int) = bt s k := bt_at s k
      have hw : wrap64 (wrap64 (bt s k) * 256) = bt s k * 256 := by
        have := bt_range s k
        unfold wrap64
        omega
      obtain ⟨hb2, hb3⟩ := bt_range s k
      have HS := Aside0.mk (take_rd (l := bytesOf s) (k := k) (by omega))
      rw [rd_bytesOf] at HS
      have HE := Aside0.mk (show tI (BitVec.ofInt 16 (bt s k) <<< 8) = bt s k * 256 by rw [tI_shl, tI_ofInt]; omega)
      go_wp2_with (go_at_call 76; (refine (calls_at' (by rw [HE.out]) (rXor_calls x (BitVec.ofInt 16 (bt s k) <<< 8) _)).mono ?_); rintro e w1 ⟨rfl, rfl⟩)
      clear hb hw hb2 hb3
      obtain ⟨z, hz⟩ : ∃ z, z = x ^^^ (BitVec.ofInt 16 (bt s k) <<< 8) := ⟨_, rfl⟩
      rw [← hz]
      have HZ := Aside0.mk hz
      clear hz
      go_loop [5, 7] (fun n i => ∃ (j : Nat) (y : V16), j ≤ 8 ∧ i = .int .i64 j ∧ n = .int .i64 (tI y) ∧ Aside0 (y = bitsV z j)) (fun _ i => (8 - intOf i).toNat)
      case atStart => exact ⟨0, z, by omega, rfl, rfl, ⟨rfl⟩⟩
      case round =>
        obtain ⟨j, y, hj, rfl, rfl, HY⟩ := hrel
        by_cases hlt : j < 8
        · obtain ⟨hy0, hy1⟩ := tI_lt y
          have HB := Aside0.mk (bitV_if y)
          have HT := Aside0.mk (tI_two y)
          generalize tI y = n at HB HT hy0 hy1 ⊢
          by_cases hm : 32768 ≤ n
          · rw [if_pos hm] at HB HT
            go_wp2_with (go_at_call 76; (refine (calls_at' (by rw [HT.out]; rfl) (rXor_calls (y <<< 1) 4129#16 _)).mono ?_); rintro e w1 ⟨rfl, rfl⟩)
            go_round
            case rel => exact ⟨j + 1, _, by omega, by go_num, rfl, ⟨by rw [bitsV, ← HY.out, HB.out]⟩⟩
            case measure => simp [intOf]; omega
          · rw [if_neg hm] at HB HT
            go_wp2
            go_round
            case rel => exact ⟨j + 1, _, by omega, by go_num, by rw [HT.out], ⟨by rw [bitsV, ← HY.out, HB.out]⟩⟩
            case measure => simp [intOf]; omega
        · obtain rfl : j = 8 := by omega
          go_wp2
          go_round
          case rel => exact ⟨k + 1, _, by omega, by go_num, rfl, ⟨by rw [HS.out, crcV_append, HY.out, HZ.out, HX.out]; rfl⟩⟩
          case measure => simp [intOf]; omega
    · obtain rfl : k = s.size := by omega
      have HE := Aside0.mk (List.take_of_length_le (Nat.le_of_eq hL))
      go_wp2
      go_ret
      rw [HX.out, HE.out]
      exact ⟨rfl, rfl⟩
end Go.Proofs.YtbfogcckbhkciaaGreat.Hand
namespace Go.Proofs.YtbfogcckbhkciaaGreat.Hand
set_option linter.unusedVariables false
set_option linter.unusedSimpArgs false
open Go.RowKit Go.Proofs.YtbfogcckbhkciaaGreatW.PrintWords
abbrev Part := Option Addr × Nat × List Int
def sumV (x : V16) (ps : List Part) : V16 := ps.foldl (fun x p => crcV x p.2.2) x
theorem ofInt_tI (x : V16) : BitVec.ofInt 16 (tI x) = x := by
  apply tI_inj
  rw [tI_ofInt]
  have := tI_lt x
  omega
theorem sum_calls (ps : List Part) (a : Addr) (c : Nat) (w : World) (hc : ∀ j (h : j < ps.length), w.cell? (a.add j) = some (.slice (ps[j]).1 (ps[j]).2.2.length (ps[j]).2.1))
    (hr : ∀ j (h : j < ps.length), ReadsInt w .u8 (ps[j]).1 (ps[j]).2.2.length (ps[j]).2.2 ∧ (ps[j]).2.2.length ≤ 140737488355328) (hl : ps.length ≤ 1000) :
    Calls Tryz.prog 62 #[.slice (some a) ps.length c] w fun e w' => e = .returned (.int .i64 (tI (sumV 0#16 ps))) ∧ Below w.heap.size w w' := by
  have HC := Aside0.mk hc
  have HR := Aside0.mk hr
  clear hc hr
  go_enter Tryz.func62, Tryz.ntmps62
  go_wp2
  go_loopw [3, 8] (fun n i wr => ∃ (k : Nat) (x : V16), k ≤ ps.length ∧ i = .int .i64 k ∧ n = .int .i64 (tI x) ∧ Aside0 (x = sumV 0#16 (ps.take k)) ∧ Aside0 (Below w.heap.size w wr)) (fun _ i _ => (ps.length - intOf i).toNat)
  case atStart => exact ⟨0, 0#16, Nat.zero_le _, rfl, rfl, ⟨rfl⟩, ⟨Below.refl _ _⟩⟩
  case round =>
    obtain ⟨k, x, hk, rfl, rfl, HX, HB⟩ := hrel
    by_cases hlt : k < ps.length
    · have hc := HC.out k hlt
      have HL := Aside0.mk (HR.out k hlt)
      have HT := Aside0.mk (show ps.take (k + 1) = ps.take k ++ [ps[k]] by rw [List.take_succ_eq_append_getElem hlt])
      obtain ⟨p, hp⟩ : ∃ p, p = ps[k] := ⟨_, rfl⟩
      rw [← hp] at hc HL HT
      have hc1 : wr.cell? (a.add k) = some (.slice p.1 p.2.2.length p.2.1) := (HB.out.cell (World.block_lt_of_cell? w _ hc)).trans hc
      clear hc hp
      go_wp2_with (go_at_call 78; (with_reducible refine (more_v (tI x) p.1 p.2.1 p.2.2 _ (HL.out.1.below HB.out) HL.out.2).mono ?_); rintro e w1 ⟨rfl, hb1⟩; have HB1 := Aside0.mk (bel_step HB.out hb1); clear hb1)
      go_roundw
      case rel => exact ⟨k + 1, crcV x p.2.2, by omega, by go_num, by rw [ofInt_tI], ⟨by rw [HT.out, sumV, List.foldl_append, HX.out]; rfl⟩, HB1⟩
      case measure => simp [intOf]; omega
    · obtain rfl : k = ps.length := by omega
      go_wp2
      go_ret
      rw [HX.out, List.take_of_length_le (Nat.le_refl _)]
      exact ⟨rfl, HB.out⟩
def crcI (l : List Int) : Int := tI (crcV 0#16 l)
end Go.Proofs.YtbfogcckbhkciaaGreat.Hand
namespace Go.Proofs.YtbfogcckbhkciaaGreat.Hand
set_option linter.unusedVariables false
set_option linter.unusedSimpArgs false
open Go.RowKit Go.Maps Go.Proofs.YtbfogcckbhkciaaGreatW.PrintWords Go.Proofs.YtbfogcckbhkciaaGreatW.PrintLast
set_option linter.unusedVariables false
set_option linter.unusedSimpArgs false
abbrev SetT := Int × Int
def encSt (x : SetT) : List Value := [.int .i64 x.1, .int .u64 x.2]
theorem encSt_len (x : SetT) : (encSt x).length = 2 := rfl
theorem encSt_one (x : SetT) : ∀ u ∈ encSt x, u.oneCell' = true := by simp [encSt, Value.oneCell']
def SetK : Kd SetT := flat encSt 2 encSt_len encSt_one
def WfSt (x : SetT) : Prop := -9223372036854775808 ≤ x.1 ∧ x.1 ≤ 9223372036854775807 ∧ 0 ≤ x.2 ∧ x.2 < 18446744073709551616
structure HasL (w : World) (q p : Nat) (a k nx : Nat) : Prop where
  ptr : w.heap[q]? = some (.cells #[.pointer (some ⟨p, 0, none⟩), .int .i64 a, .int .i64 k, .int .i64 nx] 74 (0, 0))
theorem HasL.fr {S : Nat → Prop} {w w1 : World} {q p a k nx : Nat} (h : HasL w q p a k nx) (hf : Fr S w w1) (hs : ¬ S q) : HasL w1 q p a k nx := ⟨(hf.block q (blk_lt h.ptr) hs).trans h.ptr⟩
theorem HasL.below {w w1 : World} {q p a k nx : Nat} (h : HasL w q p a k nx) (hb : Below w.heap.size w w1) : HasL w1 q p a k nx := ⟨(hb.block q (blk_lt h.ptr)).trans h.ptr⟩
theorem HasL.cells {w : World} {q p a k nx : Nat} (h : HasL w q p a k nx) : w.cell? ⟨q, 0, none⟩ = some (.pointer (some ⟨p, 0, none⟩)) ∧ w.cell? ⟨q, 1, none⟩ = some (.int .i64 a) ∧ w.cell? ⟨q, 2, none⟩ = some (.int .i64 k) ∧ w.cell? ⟨q, 3, none⟩ = some (.int .i64 nx) :=
  ⟨blk_cell h.ptr rfl, blk_cell h.ptr rfl, blk_cell h.ptr rfl, blk_cell h.ptr rfl⟩
def inR (n : Nat) (a k : Int) : Int := if k < 1 then 1 else if a < 0 ∨ k > n ∨ a > n - k then 30 else 0
theorem inR_ok {n : Nat} {a k : Int} (h : inR n a k = 0) : 1 ≤ k ∧ 0 ≤ a ∧ a + k ≤ n := by
  unfold inR at h
  split at h
  · omega
  · split at h <;> omega
theorem inside4_calls (w : World) (p : Nat) (v : Value) (s f : Nat) (d : Dev) (a k : Int) (h : HasD w p v s f d) :
    Calls Tryz.prog 25 #[.pointer (some ⟨p, 0, none⟩), .int .i64 a, .int .i64 k] w fun e w' => e = .returned (.int .i64 (inR (d.B.length / 8) a k)) ∧ w = w' := by
  have HL := Aside0.mk (len_calls w p v s f d h)
  have hm := h.ok.max
  obtain ⟨n, hn⟩ : ∃ n : Nat, n = d.B.length / 8 := ⟨_, rfl⟩
  have e1 : (d.B.length : Int) / 8 = n := by omega
  rw [← hn]
  have hn8 : n ≤ 8192 := by omega
  clear h hn
  rcases (show k < 1 ∨ (1 ≤ k ∧ a < 0) ∨ (1 ≤ k ∧ 0 ≤ a ∧ n < k) ∨ (1 ≤ k ∧ 0 ≤ a ∧ k ≤ n ∧ (n : Int) - k < a) ∨ (1 ≤ k ∧ 0 ≤ a ∧ k ≤ n ∧ a ≤ (n : Int) - k) by omega) with h1 | ⟨h1, h2⟩ | ⟨h1, h2, h3⟩ | ⟨h1, h2, h3, h4⟩ | ⟨h1, h2, h3, h4⟩
  · have HE := Aside0.mk (show inR n a k = 1 by rw [inR, if_pos h1])
    go_enter Tryz.func25, Tryz.ntmps25
    go_wp2_with (go_at_call 55; ((with_reducible refine HL.out.mono ?_); rintro e w1 ⟨rfl, rfl⟩))
    go_ret
    rw [HE.out]
    exact ⟨rfl, rfl⟩
  · have HE := Aside0.mk (show inR n a k = 30 by rw [inR, if_neg (by omega), if_pos (.inl h2)])
    go_enter Tryz.func25, Tryz.ntmps25
    go_wp2_with (go_at_call 55; ((with_reducible refine HL.out.mono ?_); rintro e w1 ⟨rfl, rfl⟩))
    go_ret
    rw [HE.out]
    exact ⟨rfl, rfl⟩
  · have HE := Aside0.mk (show inR n a k = 30 by rw [inR, if_neg (by omega), if_pos (.inr (.inl h3))])
    go_enter Tryz.func25, Tryz.ntmps25
    go_wp2_with (go_at_call 55; ((with_reducible refine HL.out.mono ?_); rintro e w1 ⟨rfl, rfl⟩))
    go_ret
    rw [HE.out]
    exact ⟨rfl, rfl⟩
  · have HE := Aside0.mk (show inR n a k = 30 by rw [inR, if_neg (by omega), if_pos (.inr (.inr (by omega)))])
    go_enter Tryz.func25, Tryz.ntmps25
    go_wp2_with (go_at_call 55; ((with_reducible refine HL.out.mono ?_); rintro e w1 ⟨rfl, rfl⟩))
    go_ret
    rw [HE.out]
    exact ⟨rfl, rfl⟩
  · have HE := Aside0.mk (show inR n a k = 0 by rw [inR, if_neg (by omega), if_neg (by omega)])
    go_enter Tryz.func25, Tryz.ntmps25
    go_wp2_with (go_at_call 55; ((with_reducible refine HL.out.mono ?_); rintro e w1 ⟨rfl, rfl⟩))
    go_ret
    rw [HE.out]
    exact ⟨rfl, rfl⟩
theorem room4_calls (w : World) (q p a k nx : Nat) (h : HasL w q p a k nx) (h1 : 1 ≤ k) (h2 : k ≤ 8192) :
    Calls Tryz.prog 9 #[.pointer (some ⟨q, 0, none⟩)] w fun e w' => e = .returned (.int .i64 (((k - 1) / 2 : Nat) : Int)) ∧ w = w' := by
  obtain ⟨c0, c1, c2, c3⟩ := h.cells
  have HM := Aside0.mk (show (((k - 1) / 2 : Nat) : Int) = ((k : Int) - 1) / 2 by omega)
  clear h
  go_enter Tryz.func9, Tryz.ntmps9
  go_wp2
  go_ret
  rw [HM.out]
  exact ⟨rfl, rfl⟩
theorem seq4_calls (w : World) (q p a k nx : Nat) (h : HasL w q p a k nx) :
    Calls Tryz.prog 11 #[.pointer (some ⟨q, 0, none⟩)] w fun e w' => e = .returned (.int .i64 nx) ∧ w = w' := by
  obtain ⟨c0, c1, c2, c3⟩ := h.cells
  clear h
  go_enter Tryz.func11, Tryz.ntmps11
  go_wp2
  go_ret
  exact ⟨rfl, rfl⟩
def mayB (n a k : Nat) (x : Int) : Bool := decide (0 ≤ x ∧ x < n ∧ ¬ ((a : Int) ≤ x ∧ x < (a : Int) + k))
set_option maxRecDepth 100000 in
set_option maxHeartbeats 4000000 in
theorem may_calls (w : World) (q p : Nat) (v : Value) (s f : Nat) (d : Dev) (a k nx : Nat) (x : SetT) (hd : HasD w p v s f d) (h : HasL w q p a k nx) (hak : a + k ≤ 8192) :
    Calls Tryz.prog 31 #[.pointer (some ⟨q, 0, none⟩), .agg #[.int .i64 x.1, .int .u64 x.2]] w fun e w' => e = .returned (.bool (mayB (d.B.length / 8) a k x.1)) ∧ Below w.heap.size w w' := by
  have HL := Aside0.mk (fun (W : World) (hb : Below w.heap.size w W) => len_calls W p v s f d (hd.move hb))
  have HLL := Aside0.mk (fun (W : World) (hb : Below w.heap.size w W) => h.below hb)
  have hm := hd.ok.max
  obtain ⟨c0, c1, c2, c3⟩ := h.cells
  obtain ⟨n, hn⟩ : ∃ n : Nat, n = d.B.length / 8 := ⟨_, rfl⟩
  have e1 : (d.B.length : Int) / 8 = n := by omega
  rw [← hn]
  have hn8 : n ≤ 8192 := by omega
  clear h hn hd
  obtain ⟨x, y⟩ := x
  simp only
  obtain ⟨wa, hwa⟩ : ∃ wa, wa = w.alloc (.cells #[.int .i64 x, .int .u64 y] 66) := ⟨_, rfl⟩
  have HBA := Aside0.mk (show Below w.heap.size w wa by rw [hwa]; exact below_alloc (Below.refl _ _) _)
  have d0 := bel_cell HBA.out c0
  have d1 := bel_cell HBA.out c1
  have d2 := bel_cell HBA.out c2
  have d3 : wa.cell? ⟨w.heap.size, 0, none⟩ = some (.int .i64 x) := by rw [hwa]; exact new_cell w _ _ 0 rfl
  have HW := Aside0.mk hwa
  clear hwa c3
  have HEq := Aside0.mk (show mayB n a k x = (decide (0 ≤ x) && decide (x < (n : Int)) && !(decide ((a : Int) ≤ x) && decide (x < (a : Int) + k))) by simp only [mayB]; by_cases h1 : (a : Int) ≤ x <;> by_cases h2 : x < (a : Int) + k <;> by_cases h3 : 0 ≤ x <;> by_cases h4 : x < (n : Int) <;> simp [h1, h2, h3, h4])
  have k1 : IntKind.i64.wrap ((a : Int) + k) = a + k := IntWalk.i64_in _ (by omega)
  have k2 : IntKind.i64.wrap (n : Int) = n := IntWalk.i64_in _ (by omega)
  obtain ⟨r, hr⟩ : ∃ r, r = mayB n a k x := ⟨_, rfl⟩
  rw [← hr]
  have HR := Aside0.mk (hr.trans HEq.out)
  clear hr HEq
  go_enter Tryz.func31, Tryz.ntmps31
  go_wp2_with fail
  rw [← HW.out]
  rcases (show (a : Int) ≤ x ∨ ¬ (a : Int) ≤ x by omega) with h1 | h1
  · rw [decide_eq_true h1] at HR
    have z1 : decide ((a : Int) ≤ x) = true := decide_eq_true h1
    clear h1
    rcases (show ¬ (0 : Int) ≤ x ∨ ((0 : Int) ≤ x ∧ ¬ x < (n : Int)) ∨ ((0 : Int) ≤ x ∧ x < (n : Int)) by omega) with h3 | ⟨h3, h4⟩ | ⟨h3, h4⟩
    · rw [decide_eq_false h3] at HR
      have z3 : decide ((0 : Int) ≤ x) = false := decide_eq_false h3
      clear h3
      refine start_ (n := 22) (S := fun w' => w'.cell? ⟨q, 1, none⟩ = some (.int .i64 a) ∧ w'.cell? ⟨q, 2, none⟩ = some (.int .i64 k) ∧ w'.cell? ⟨w.heap.size, 0, none⟩ = some (.int .i64 x)) (ds := []) #[false, false, false, false, false, false, false, false, false, false, false, false, false, false, false, false, false, false, false, false, false, false] (by kernel_rfl) rfl rfl ⟨d1, d2, d3⟩ (fun hHeld => ?_)
      refine pure_ (i := 0) (N := some 6) (v := ?_) (a' := ?_) #[true, false, false, false, false, false, false, false, false, false, false, false, false, false, false, false, false, false, false, false, false, false] rfl rfl (by kernel_rfl) (fun _ _ _ h => h) (Or.inl ⟨by rfl, ?_⟩) ?_ ?_
      rotate_left
      · intro w'
        go_simp
        with_reducible rfl
      rotate_left
      · simp only [Act.put, List.setIfInBounds_toArray, List.set_cons_zero, List.set_cons_succ, i64_w, i32_w]
        rfl
      refine pure_ (i := 2) (N := some 8) (v := ?_) (a' := ?_) #[true, false, true, false, false, false, false, false, false, false, false, false, false, false, false, false, false, false, false, false, false, false] rfl rfl (by kernel_rfl) (fun _ _ _ h => h) (Or.inl ⟨by rfl, ?_⟩) ?_ ?_
      rotate_left
      · intro w'
        go_simp
        with_reducible rfl
      rotate_left
      · simp only [Act.put, List.setIfInBounds_toArray, List.set_cons_zero, List.set_cons_succ, i64_w, i32_w]
        rfl
      refine pure_ (i := 3) (N := some 9) (v := ?_) (a' := ?_) #[true, false, true, true, false, false, false, false, false, false, false, false, false, false, false, false, false, false, false, false, false, false] rfl rfl (by kernel_rfl) (fun _ _ _ h => h) (Or.inl ⟨by rfl, ?_⟩) ?_ ?_
      rotate_left
      · intro w'
        go_simp
        with_reducible rfl
      rotate_left
      · simp only [Act.put, List.setIfInBounds_toArray, List.set_cons_zero, List.set_cons_succ, i64_w, i32_w]
        rfl
      refine pure_ (i := 4) (N := some 10) (v := ?_) (a' := ?_) #[true, false, true, true, true, false, false, false, false, false, false, false, false, false, false, false, false, false, false, false, false, false] rfl rfl (by kernel_rfl) (fun _ _ _ h => h) (Or.inl ⟨by rfl, ?_⟩) ?_ ?_
      rotate_left
      · intro w'
        go_simp
        with_reducible rfl
      rotate_left
      · simp only [Act.put, List.setIfInBounds_toArray, List.set_cons_zero, List.set_cons_succ, i64_w, i32_w]
        rfl
      refine take_ (i := 1) (N := some 7) (v := ?_) (a' := ?_) #[true, true, true, true, true, false, false, false, false, false, false, false, false, false, false, false, false, false, false, false, false, false] rfl rfl (by kernel_rfl) (fun _ _ _ h => h) (Or.inl ⟨by rfl, ?_⟩) hHeld ?_ ?_
      rotate_left
      · rintro w' ⟨s0, s1, s2⟩
        go_simp
        with_reducible rfl
      rotate_left
      · simp only [Act.put, List.setIfInBounds_toArray, List.set_cons_zero, List.set_cons_succ, i64_w, i32_w]
        rfl
      refine take_ (i := 5) (N := some 11) (v := ?_) (a' := ?_) #[true, true, true, true, true, true, false, false, false, false, false, false, false, false, false, false, false, false, false, false, false, false] rfl rfl (by kernel_rfl) (fun _ _ _ h => h) (Or.inl ⟨by rfl, ?_⟩) hHeld ?_ ?_
      rotate_left
      · rintro w' ⟨s0, s1, s2⟩
        go_simp
        with_reducible rfl
      rotate_left
      · simp only [Act.put, List.setIfInBounds_toArray, List.set_cons_zero, List.set_cons_succ, i64_w, i32_w]
        rfl
      refine pure_ (i := 6) (N := some 12) (v := ?_) (a' := ?_) #[true, true, true, true, true, true, true, false, false, false, false, false, false, false, false, false, false, false, false, false, false, false] rfl rfl (by kernel_rfl) (fun _ _ _ h => h) (Or.inl ⟨by rfl, ?_⟩) ?_ ?_
      rotate_left
      · intro w'
        go_simp
        with_reducible rfl
      rotate_left
      · simp only [Act.put, List.setIfInBounds_toArray, List.set_cons_zero, List.set_cons_succ, i64_w, i32_w]
        rfl
      refine pure_ (i := 7) (N := some 13) (v := ?_) (a' := ?_) #[true, true, true, true, true, true, true, true, false, false, false, false, false, false, false, false, false, false, false, false, false, false] rfl rfl (by kernel_rfl) (fun _ _ _ h => h) (Or.inl ⟨by rfl, ?_⟩) ?_ ?_
      rotate_left
      · intro w'
        go_simp
        with_reducible rfl
      rotate_left
      · simp only [Act.put, List.setIfInBounds_toArray, List.set_cons_zero, List.set_cons_succ, i64_w, i32_w]
        rfl
      refine pure_ (i := 8) (N := some 14) (v := ?_) (a' := ?_) #[true, true, true, true, true, true, true, true, true, false, false, false, false, false, false, false, false, false, false, false, false, false] rfl rfl (by kernel_rfl) (fun _ _ _ h => h) (Or.inl ⟨by rfl, ?_⟩) ?_ ?_
      rotate_left
      · intro w'
        go_simp
        with_reducible rfl
      rotate_left
      · simp only [Act.put, List.setIfInBounds_toArray, List.set_cons_zero, List.set_cons_succ, i64_w, i32_w]
        rfl
      refine pure_ (i := 10) (N := some 16) (v := ?_) (a' := ?_) #[true, true, true, true, true, true, true, true, true, false, true, false, false, false, false, false, false, false, false, false, false, false] rfl rfl (by kernel_rfl) (fun _ _ _ h => h) (Or.inl ⟨by rfl, ?_⟩) ?_ ?_
      rotate_left
      · intro w'
        go_simp
        with_reducible rfl
      rotate_left
      · simp only [Act.put, List.setIfInBounds_toArray, List.set_cons_zero, List.set_cons_succ, i64_w, i32_w]
        rfl
      refine pure_ (i := 11) (N := some 17) (v := ?_) (a' := ?_) #[true, true, true, true, true, true, true, true, true, false, true, true, false, false, false, false, false, false, false, false, false, false] rfl rfl (by kernel_rfl) (fun _ _ _ h => h) (Or.inl ⟨by rfl, ?_⟩) ?_ ?_
      rotate_left
      · intro w'
        go_simp
        with_reducible rfl
      rotate_left
      · simp only [Act.put, List.setIfInBounds_toArray, List.set_cons_zero, List.set_cons_succ, i64_w, i32_w]
        rfl
      refine pure_ (i := 12) (N := some 18) (v := ?_) (a' := ?_) #[true, true, true, true, true, true, true, true, true, false, true, true, true, false, false, false, false, false, false, false, false, false] rfl rfl (by kernel_rfl) (fun _ _ _ h => h) (Or.inl ⟨by rfl, ?_⟩) ?_ ?_
      rotate_left
      · intro w'
        go_simp
        with_reducible rfl
      rotate_left
      · simp only [Act.put, List.setIfInBounds_toArray, List.set_cons_zero, List.set_cons_succ, i64_w, i32_w]
        rfl
      refine pure_ (i := 14) (N := some 20) (v := ?_) (a' := ?_) #[true, true, true, true, true, true, true, true, true, false, true, true, true, false, true, false, false, false, false, false, false, false] rfl rfl (by kernel_rfl) (fun _ _ _ h => h) (Or.inl ⟨by rfl, ?_⟩) ?_ ?_
      rotate_left
      · intro w'
        go_simp
        with_reducible rfl
      rotate_left
      · simp only [Act.put, List.setIfInBounds_toArray, List.set_cons_zero, List.set_cons_succ, i64_w, i32_w]
        rfl
      refine pure_ (i := 15) (N := some 21) (v := ?_) (a' := ?_) #[true, true, true, true, true, true, true, true, true, false, true, true, true, false, true, true, false, false, false, false, false, false] rfl rfl (by kernel_rfl) (fun _ _ _ h => h) (Or.inl ⟨by rfl, ?_⟩) ?_ ?_
      rotate_left
      · intro w'
        go_simp
        with_reducible rfl
      rotate_left
      · simp only [Act.put, List.setIfInBounds_toArray, List.set_cons_zero, List.set_cons_succ, i64_w, i32_w]
        rfl
      refine pure_ (i := 16) (N := some 22) (v := ?_) (a' := ?_) #[true, true, true, true, true, true, true, true, true, false, true, true, true, false, true, true, true, false, false, false, false, false] rfl rfl (by kernel_rfl) (fun _ _ _ h => h) (Or.inl ⟨by rfl, ?_⟩) ?_ ?_
      rotate_left
      · intro w'
        go_simp
        with_reducible rfl
      rotate_left
      · simp only [Act.put, List.setIfInBounds_toArray, List.set_cons_zero, List.set_cons_succ, i64_w, i32_w]
        rfl
      refine take_ (i := 9) (N := some 15) (v := ?_) (a' := ?_) #[true, true, true, true, true, true, true, true, true, true, true, true, true, false, true, true, true, false, false, false, false, false] rfl rfl (by kernel_rfl) (fun _ _ _ h => h) (Or.inl ⟨by rfl, ?_⟩) hHeld ?_ ?_
      rotate_left
      · rintro w' ⟨s0, s1, s2⟩
        go_simp
        with_reducible rfl
      rotate_left
      · simp only [Act.put, List.setIfInBounds_toArray, List.set_cons_zero, List.set_cons_succ, i64_w, i32_w]
        rfl
      refine take_ (i := 13) (N := some 19) (v := ?_) (a' := ?_) #[true, true, true, true, true, true, true, true, true, true, true, true, true, true, true, true, true, false, false, false, false, false] rfl rfl (by kernel_rfl) (fun _ _ _ h => h) (Or.inl ⟨by rfl, ?_⟩) hHeld ?_ ?_
      rotate_left
      · rintro w' ⟨s0, s1, s2⟩
        go_simp
        with_reducible rfl
      rotate_left
      · simp only [Act.put, List.setIfInBounds_toArray, List.set_cons_zero, List.set_cons_succ, i64_w, i32_w]
        rfl
      refine take_ (i := 17) (N := some 23) (v := ?_) (a' := ?_) #[true, true, true, true, true, true, true, true, true, true, true, true, true, true, true, true, true, true, false, false, false, false] rfl rfl (by kernel_rfl) (fun _ _ _ h => h) (Or.inl ⟨by rfl, ?_⟩) hHeld ?_ ?_
      rotate_left
      · rintro w' ⟨s0, s1, s2⟩
        go_simp
        with_reducible rfl
      rotate_left
      · simp only [Act.put, List.setIfInBounds_toArray, List.set_cons_zero, List.set_cons_succ, i64_w, i32_w]
        rfl
      refine pure_ (i := 18) (N := some 24) (v := ?_) (a' := ?_) #[true, true, true, true, true, true, true, true, true, true, true, true, true, true, true, true, true, true, true, false, false, false] rfl rfl (by kernel_rfl) (fun _ _ _ h => h) (Or.inl ⟨by rfl, ?_⟩) ?_ ?_
      rotate_left
      · intro w'
        go_simp
        with_reducible rfl
      rotate_left
      · simp only [Act.put, List.setIfInBounds_toArray, List.set_cons_zero, List.set_cons_succ, i64_w, i32_w]
        rfl
      refine pure_ (i := 19) (N := some 25) (v := ?_) (a' := ?_) #[true, true, true, true, true, true, true, true, true, true, true, true, true, true, true, true, true, true, true, true, false, false] rfl rfl (by kernel_rfl) (fun _ _ _ h => h) (Or.inl ⟨by rfl, ?_⟩) ?_ ?_
      rotate_left
      · intro w'
        go_simp
        with_reducible rfl
      rotate_left
      · simp only [Act.put, List.setIfInBounds_toArray, List.set_cons_zero, List.set_cons_succ, i64_w, i32_w]
        rfl
      refine pure_ (i := 20) (N := some 26) (v := ?_) (a' := ?_) #[true, true, true, true, true, true, true, true, true, true, true, true, true, true, true, true, true, true, true, true, true, false] rfl rfl (by kernel_rfl) (fun _ _ _ h => h) (Or.inl ⟨by rfl, ?_⟩) ?_ ?_
      rotate_left
      · intro w'
        go_simp
        with_reducible rfl
      rotate_left
      · simp only [Act.put, List.setIfInBounds_toArray, List.set_cons_zero, List.set_cons_succ, i64_w, i32_w]
        rfl
      refine pure_ (i := 21) (N := some 5) (v := ?_) (a' := ?_) #[true, true, true, true, true, true, true, true, true, true, true, true, true, true, true, true, true, true, true, true, true, true] rfl rfl (by kernel_rfl) (fun _ _ _ h => h) (Or.inl ⟨by rfl, ?_⟩) ?_ ?_
      rotate_left
      · intro w'
        go_simp
        with_reducible rfl
      rotate_left
      · simp only [Act.put, List.setIfInBounds_toArray, List.set_cons_zero, List.set_cons_succ, i64_w, i32_w]
        rfl
      refine done_ (by kernel_rfl) ?_
      go_wp2_with fail
      refine start_ (n := 19) (S := fun w' => w'.cell? ⟨q, 0, none⟩ = some (.pointer (some ⟨p, 0, none⟩)) ∧ w'.cell? ⟨w.heap.size, 0, none⟩ = some (.int .i64 x)) (ds := []) #[false, false, false, false, false, false, false, false, false, false, false, false, false, false, false, false, false, false, false] (by kernel_rfl) rfl rfl ⟨d0, d3⟩ (fun hHeld => ?_)
      refine pure_ (i := 0) (N := some 27) (v := ?_) (a' := ?_) #[true, false, false, false, false, false, false, false, false, false, false, false, false, false, false, false, false, false, false] rfl rfl (by kernel_rfl) (fun _ _ _ h => h) (Or.inl ⟨by rfl, ?_⟩) ?_ ?_
      rotate_left
      · intro w'
        go_simp
        with_reducible rfl
      rotate_left
      · simp only [Act.put, List.setIfInBounds_toArray, List.set_cons_zero, List.set_cons_succ, i64_w, i32_w]
        rfl
      refine take_ (i := 1) (N := some 28) (v := ?_) (a' := ?_) #[true, true, false, false, false, false, false, false, false, false, false, false, false, false, false, false, false, false, false] rfl rfl (by kernel_rfl) (fun _ _ _ h => h) (Or.inl ⟨by rfl, ?_⟩) hHeld ?_ ?_
      rotate_left
      · rintro w' ⟨s0, s1⟩
        go_simp
        with_reducible rfl
      rotate_left
      · simp only [Act.put, List.setIfInBounds_toArray, List.set_cons_zero, List.set_cons_succ, i64_w, i32_w]
        rfl
      refine pure_ (i := 2) (N := some 29) (v := ?_) (a' := ?_) #[true, true, true, false, false, false, false, false, false, false, false, false, false, false, false, false, false, false, false] rfl rfl (by kernel_rfl) (fun _ _ _ h => h) (Or.inl ⟨by rfl, ?_⟩) ?_ ?_
      rotate_left
      · intro w'
        go_simp
        with_reducible rfl
      rotate_left
      · simp only [Act.put, List.setIfInBounds_toArray, List.set_cons_zero, List.set_cons_succ, i64_w, i32_w]
        rfl
      refine pure_ (i := 3) (N := some 30) (v := ?_) (a' := ?_) #[true, true, true, true, false, false, false, false, false, false, false, false, false, false, false, false, false, false, false] rfl rfl (by kernel_rfl) (fun _ _ _ h => h) (Or.inl ⟨by rfl, ?_⟩) ?_ ?_
      rotate_left
      · intro w'
        go_simp
        with_reducible rfl
      rotate_left
      · simp only [Act.put, List.setIfInBounds_toArray, List.set_cons_zero, List.set_cons_succ, i64_w, i32_w]
        rfl
      refine pure_ (i := 4) (N := some 31) (v := undef) (a' := ?_) #[true, true, true, true, true, false, false, false, false, false, false, false, false, false, false, false, false, false, false] rfl rfl (by kernel_rfl) (fun _ _ _ h => h) (Or.inr ⟨by rfl, rfl⟩) ?_ ?_
      rotate_left
      · simp only [Act.put, List.setIfInBounds_toArray, List.set_cons_zero, List.set_cons_succ, i64_w, i32_w]
        rfl
      refine pure_ (i := 5) (N := some 32) (v := undef) (a' := ?_) #[true, true, true, true, true, true, false, false, false, false, false, false, false, false, false, false, false, false, false] rfl rfl (by kernel_rfl) (fun _ _ _ h => h) (Or.inr ⟨by rfl, rfl⟩) ?_ ?_
      rotate_left
      · simp only [Act.put, List.setIfInBounds_toArray, List.set_cons_zero, List.set_cons_succ, i64_w, i32_w]
        rfl
      refine pure_ (i := 6) (N := some 33) (v := undef) (a' := ?_) #[true, true, true, true, true, true, true, false, false, false, false, false, false, false, false, false, false, false, false] rfl rfl (by kernel_rfl) (fun _ _ _ h => h) (Or.inr ⟨by rfl, rfl⟩) ?_ ?_
      rotate_left
      · simp only [Act.put, List.setIfInBounds_toArray, List.set_cons_zero, List.set_cons_succ, i64_w, i32_w]
        rfl
      refine pure_ (i := 7) (N := some 34) (v := undef) (a' := ?_) #[true, true, true, true, true, true, true, true, false, false, false, false, false, false, false, false, false, false, false] rfl rfl (by kernel_rfl) (fun _ _ _ h => h) (Or.inr ⟨by rfl, rfl⟩) ?_ ?_
      rotate_left
      · simp only [Act.put, List.setIfInBounds_toArray, List.set_cons_zero, List.set_cons_succ, i64_w, i32_w]
        rfl
      refine pure_ (i := 8) (N := some 35) (v := undef) (a' := ?_) #[true, true, true, true, true, true, true, true, true, false, false, false, false, false, false, false, false, false, false] rfl rfl (by kernel_rfl) (fun _ _ _ h => h) (Or.inr ⟨by rfl, rfl⟩) ?_ ?_
      rotate_left
      · simp only [Act.put, List.setIfInBounds_toArray, List.set_cons_zero, List.set_cons_succ, i64_w, i32_w]
        rfl
      refine pure_ (i := 9) (N := some 36) (v := undef) (a' := ?_) #[true, true, true, true, true, true, true, true, true, true, false, false, false, false, false, false, false, false, false] rfl rfl (by kernel_rfl) (fun _ _ _ h => h) (Or.inr ⟨by rfl, rfl⟩) ?_ ?_
      rotate_left
      · simp only [Act.put, List.setIfInBounds_toArray, List.set_cons_zero, List.set_cons_succ, i64_w, i32_w]
        rfl
      refine pure_ (i := 10) (N := some 37) (v := undef) (a' := ?_) #[true, true, true, true, true, true, true, true, true, true, true, false, false, false, false, false, false, false, false] rfl rfl (by kernel_rfl) (fun _ _ _ h => h) (Or.inr ⟨by rfl, rfl⟩) ?_ ?_
      rotate_left
      · simp only [Act.put, List.setIfInBounds_toArray, List.set_cons_zero, List.set_cons_succ, i64_w, i32_w]
        rfl
      refine pure_ (i := 11) (N := some 38) (v := undef) (a' := ?_) #[true, true, true, true, true, true, true, true, true, true, true, true, false, false, false, false, false, false, false] rfl rfl (by kernel_rfl) (fun _ _ _ h => h) (Or.inr ⟨by rfl, rfl⟩) ?_ ?_
      rotate_left
      · simp only [Act.put, List.setIfInBounds_toArray, List.set_cons_zero, List.set_cons_succ, i64_w, i32_w]
        rfl
      refine pure_ (i := 12) (N := some 39) (v := undef) (a' := ?_) #[true, true, true, true, true, true, true, true, true, true, true, true, true, false, false, false, false, false, false] rfl rfl (by kernel_rfl) (fun _ _ _ h => h) (Or.inr ⟨by rfl, rfl⟩) ?_ ?_
      rotate_left
      · simp only [Act.put, List.setIfInBounds_toArray, List.set_cons_zero, List.set_cons_succ, i64_w, i32_w]
        rfl
      refine pure_ (i := 13) (N := some 40) (v := ?_) (a' := ?_) #[true, true, true, true, true, true, true, true, true, true, true, true, true, true, false, false, false, false, false] rfl rfl (by kernel_rfl) (fun _ _ _ h => h) (Or.inl ⟨by rfl, ?_⟩) ?_ ?_
      rotate_left
      · intro w'
        go_simp
        with_reducible rfl
      rotate_left
      · simp only [Act.put, List.setIfInBounds_toArray, List.set_cons_zero, List.set_cons_succ, i64_w, i32_w]
        rfl
      refine pure_ (i := 14) (N := some 41) (v := ?_) (a' := ?_) #[true, true, true, true, true, true, true, true, true, true, true, true, true, true, true, false, false, false, false] rfl rfl (by kernel_rfl) (fun _ _ _ h => h) (Or.inl ⟨by rfl, ?_⟩) ?_ ?_
      rotate_left
      · intro w'
        go_simp
        with_reducible rfl
      rotate_left
      · simp only [Act.put, List.setIfInBounds_toArray, List.set_cons_zero, List.set_cons_succ, i64_w, i32_w]
        rfl
      refine pure_ (i := 15) (N := some 42) (v := undef) (a' := ?_) #[true, true, true, true, true, true, true, true, true, true, true, true, true, true, true, true, false, false, false] rfl rfl (by kernel_rfl) (fun _ _ _ h => h) (Or.inr ⟨by rfl, rfl⟩) ?_ ?_
      rotate_left
      · simp only [Act.put, List.setIfInBounds_toArray, List.set_cons_zero, List.set_cons_succ, i64_w, i32_w]
        rfl
      refine pure_ (i := 16) (N := some 43) (v := undef) (a' := ?_) #[true, true, true, true, true, true, true, true, true, true, true, true, true, true, true, true, true, false, false] rfl rfl (by kernel_rfl) (fun _ _ _ h => h) (Or.inr ⟨by rfl, rfl⟩) ?_ ?_
      rotate_left
      · simp only [Act.put, List.setIfInBounds_toArray, List.set_cons_zero, List.set_cons_succ, i64_w, i32_w]
        rfl
      refine pure_ (i := 17) (N := some 44) (v := ?_) (a' := ?_) #[true, true, true, true, true, true, true, true, true, true, true, true, true, true, true, true, true, true, false] rfl rfl (by kernel_rfl) (fun _ _ _ h => h) (Or.inl ⟨by rfl, ?_⟩) ?_ ?_
      rotate_left
      · intro w'
        go_simp
        with_reducible rfl
      rotate_left
      · simp only [Act.put, List.setIfInBounds_toArray, List.set_cons_zero, List.set_cons_succ, i64_w, i32_w]
        rfl
      refine pure_ (i := 18) (N := some 4) (v := ?_) (a' := ?_) #[true, true, true, true, true, true, true, true, true, true, true, true, true, true, true, true, true, true, true] rfl rfl (by kernel_rfl) (fun _ _ _ h => h) (Or.inl ⟨by rfl, ?_⟩) ?_ ?_
      rotate_left
      · intro w'
        go_simp
        with_reducible rfl
      rotate_left
      · simp only [Act.put, List.setIfInBounds_toArray, List.set_cons_zero, List.set_cons_succ, i64_w, i32_w]
        rfl
      refine done_ (by kernel_rfl) ?_
      go_wp2_with fail
      go_ret
      exact ⟨by rw [HR.out]; rfl, HBA.out.drew.drew⟩
    · rw [decide_eq_true h3] at HR
      have z3 : decide ((0 : Int) ≤ x) = true := decide_eq_true h3
      rw [decide_eq_false h4] at HR
      have z4 : decide (x < (n : Int)) = false := decide_eq_false h4
      clear h3 h4
      refine start_ (n := 22) (S := fun w' => w'.cell? ⟨q, 1, none⟩ = some (.int .i64 a) ∧ w'.cell? ⟨q, 2, none⟩ = some (.int .i64 k) ∧ w'.cell? ⟨w.heap.size, 0, none⟩ = some (.int .i64 x)) (ds := []) #[false, false, false, false, false, false, false, false, false, false, false, false, false, false, false, false, false, false, false, false, false, false] (by kernel_rfl) rfl rfl ⟨d1, d2, d3⟩ (fun hHeld => ?_)
      refine pure_ (i := 0) (N := some 6) (v := ?_) (a' := ?_) #[true, false, false, false, false, false, false, false, false, false, false, false, false, false, false, false, false, false, false, false, false, false] rfl rfl (by kernel_rfl) (fun _ _ _ h => h) (Or.inl ⟨by rfl, ?_⟩) ?_ ?_
      rotate_left
      · intro w'
        go_simp
        with_reducible rfl
      rotate_left
      · simp only [Act.put, List.setIfInBounds_toArray, List.set_cons_zero, List.set_cons_succ, i64_w, i32_w]
        rfl
      refine pure_ (i := 2) (N := some 8) (v := ?_) (a' := ?_) #[true, false, true, false, false, false, false, false, false, false, false, false, false, false, false, false, false, false, false, false, false, false] rfl rfl (by kernel_rfl) (fun _ _ _ h => h) (Or.inl ⟨by rfl, ?_⟩) ?_ ?_
      rotate_left
      · intro w'
        go_simp
        with_reducible rfl
      rotate_left
      · simp only [Act.put, List.setIfInBounds_toArray, List.set_cons_zero, List.set_cons_succ, i64_w, i32_w]
        rfl
      refine pure_ (i := 3) (N := some 9) (v := ?_) (a' := ?_) #[true, false, true, true, false, false, false, false, false, false, false, false, false, false, false, false, false, false, false, false, false, false] rfl rfl (by kernel_rfl) (fun _ _ _ h => h) (Or.inl ⟨by rfl, ?_⟩) ?_ ?_
      rotate_left
      · intro w'
        go_simp
        with_reducible rfl
      rotate_left
      · simp only [Act.put, List.setIfInBounds_toArray, List.set_cons_zero, List.set_cons_succ, i64_w, i32_w]
        rfl
      refine pure_ (i := 4) (N := some 10) (v := ?_) (a' := ?_) #[true, false, true, true, true, false, false, false, false, false, false, false, false, false, false, false, false, false, false, false, false, false] rfl rfl (by kernel_rfl) (fun _ _ _ h => h) (Or.inl ⟨by rfl, ?_⟩) ?_ ?_
      rotate_left
      · intro w'
        go_simp
        with_reducible rfl
      rotate_left
      · simp only [Act.put, List.setIfInBounds_toArray, List.set_cons_zero, List.set_cons_succ, i64_w, i32_w]
        rfl
      refine take_ (i := 1) (N := some 7) (v := ?_) (a' := ?_) #[true, true, true, true, true, false, false, false, false, false, false, false, false, false, false, false, false, false, false, false, false, false] rfl rfl (by kernel_rfl) (fun _ _ _ h => h) (Or.inl ⟨by rfl, ?_⟩) hHeld ?_ ?_
      rotate_left
      · rintro w' ⟨s0, s1, s2⟩
        go_simp
        with_reducible rfl
      rotate_left
      · simp only [Act.put, List.setIfInBounds_toArray, List.set_cons_zero, List.set_cons_succ, i64_w, i32_w]
        rfl
      refine take_ (i := 5) (N := some 11) (v := ?_) (a' := ?_) #[true, true, true, true, true, true, false, false, false, false, false, false, false, false, false, false, false, false, false, false, false, false] rfl rfl (by kernel_rfl) (fun _ _ _ h => h) (Or.inl ⟨by rfl, ?_⟩) hHeld ?_ ?_
      rotate_left
      · rintro w' ⟨s0, s1, s2⟩
        go_simp
        with_reducible rfl
      rotate_left
      · simp only [Act.put, List.setIfInBounds_toArray, List.set_cons_zero, List.set_cons_succ, i64_w, i32_w]
        rfl
      refine pure_ (i := 6) (N := some 12) (v := ?_) (a' := ?_) #[true, true, true, true, true, true, true, false, false, false, false, false, false, false, false, false, false, false, false, false, false, false] rfl rfl (by kernel_rfl) (fun _ _ _ h => h) (Or.inl ⟨by rfl, ?_⟩) ?_ ?_
      rotate_left
      · intro w'
        go_simp
        with_reducible rfl
      rotate_left
      · simp only [Act.put, List.setIfInBounds_toArray, List.set_cons_zero, List.set_cons_succ, i64_w, i32_w]
        rfl
      refine pure_ (i := 7) (N := some 13) (v := ?_) (a' := ?_) #[true, true, true, true, true, true, true, true, false, false, false, false, false, false, false, false, false, false, false, false, false, false] rfl rfl (by kernel_rfl) (fun _ _ _ h => h) (Or.inl ⟨by rfl, ?_⟩) ?_ ?_
      rotate_left
      · intro w'
        go_simp
        with_reducible rfl
      rotate_left
      · simp only [Act.put, List.setIfInBounds_toArray, List.set_cons_zero, List.set_cons_succ, i64_w, i32_w]
        rfl
      refine pure_ (i := 8) (N := some 14) (v := ?_) (a' := ?_) #[true, true, true, true, true, true, true, true, true, false, false, false, false, false, false, false, false, false, false, false, false, false] rfl rfl (by kernel_rfl) (fun _ _ _ h => h) (Or.inl ⟨by rfl, ?_⟩) ?_ ?_
      rotate_left
      · intro w'
        go_simp
        with_reducible rfl
      rotate_left
      · simp only [Act.put, List.setIfInBounds_toArray, List.set_cons_zero, List.set_cons_succ, i64_w, i32_w]
        rfl
      refine pure_ (i := 10) (N := some 16) (v := ?_) (a' := ?_) #[true, true, true, true, true, true, true, true, true, false, true, false, false, false, false, false, false, false, false, false, false, false] rfl rfl (by kernel_rfl) (fun _ _ _ h => h) (Or.inl ⟨by rfl, ?_⟩) ?_ ?_
      rotate_left
      · intro w'
        go_simp
        with_reducible rfl
      rotate_left
      · simp only [Act.put, List.setIfInBounds_toArray, List.set_cons_zero, List.set_cons_succ, i64_w, i32_w]
        rfl
      refine pure_ (i := 11) (N := some 17) (v := ?_) (a' := ?_) #[true, true, true, true, true, true, true, true, true, false, true, true, false, false, false, false, false, false, false, false, false, false] rfl rfl (by kernel_rfl) (fun _ _ _ h => h) (Or.inl ⟨by rfl, ?_⟩) ?_ ?_
      rotate_left
      · intro w'
        go_simp
        with_reducible rfl
      rotate_left
      · simp only [Act.put, List.setIfInBounds_toArray, List.set_cons_zero, List.set_cons_succ, i64_w, i32_w]
        rfl
      refine pure_ (i := 12) (N := some 18) (v := ?_) (a' := ?_) #[true, true, true, true, true, true, true, true, true, false, true, true, true, false, false, false, false, false, false, false, false, false] rfl rfl (by kernel_rfl) (fun _ _ _ h => h) (Or.inl ⟨by rfl, ?_⟩) ?_ ?_
      rotate_left
      · intro w'
        go_simp
        with_reducible rfl
      rotate_left
      · simp only [Act.put, List.setIfInBounds_toArray, List.set_cons_zero, List.set_cons_succ, i64_w, i32_w]
        rfl
      refine pure_ (i := 14) (N := some 20) (v := ?_) (a' := ?_) #[true, true, true, true, true, true, true, true, true, false, true, true, true, false, true, false, false, false, false, false, false, false] rfl rfl (by kernel_rfl) (fun _ _ _ h => h) (Or.inl ⟨by rfl, ?_⟩) ?_ ?_
      rotate_left
      · intro w'
        go_simp
        with_reducible rfl
      rotate_left
      · simp only [Act.put, List.setIfInBounds_toArray, List.set_cons_zero, List.set_cons_succ, i64_w, i32_w]
        rfl
      refine pure_ (i := 15) (N := some 21) (v := ?_) (a' := ?_) #[true, true, true, true, true, true, true, true, true, false, true, true, true, false, true, true, false, false, false, false, false, false] rfl rfl (by kernel_rfl) (fun _ _ _ h => h) (Or.inl ⟨by rfl, ?_⟩) ?_ ?_
      rotate_left
      · intro w'
        go_simp
        with_reducible rfl
      rotate_left
      · simp only [Act.put, List.setIfInBounds_toArray, List.set_cons_zero, List.set_cons_succ, i64_w, i32_w]
        rfl
      refine pure_ (i := 16) (N := some 22) (v := ?_) (a' := ?_) #[true, true, true, true, true, true, true, true, true, false, true, true, true, false, true, true, true, false, false, false, false, false] rfl rfl (by kernel_rfl) (fun _ _ _ h => h) (Or.inl ⟨by rfl, ?_⟩) ?_ ?_
      rotate_left
      · intro w'
        go_simp
        with_reducible rfl
      rotate_left
      · simp only [Act.put, List.setIfInBounds_toArray, List.set_cons_zero, List.set_cons_succ, i64_w, i32_w]
        rfl
      refine take_ (i := 9) (N := some 15) (v := ?_) (a' := ?_) #[true, true, true, true, true, true, true, true, true, true, true, true, true, false, true, true, true, false, false, false, false, false] rfl rfl (by kernel_rfl) (fun _ _ _ h => h) (Or.inl ⟨by rfl, ?_⟩) hHeld ?_ ?_
      rotate_left
      · rintro w' ⟨s0, s1, s2⟩
        go_simp
        with_reducible rfl
      rotate_left
      · simp only [Act.put, List.setIfInBounds_toArray, List.set_cons_zero, List.set_cons_succ, i64_w, i32_w]
        rfl
      refine take_ (i := 13) (N := some 19) (v := ?_) (a' := ?_) #[true, true, true, true, true, true, true, true, true, true, true, true, true, true, true, true, true, false, false, false, false, false] rfl rfl (by kernel_rfl) (fun _ _ _ h => h) (Or.inl ⟨by rfl, ?_⟩) hHeld ?_ ?_
      rotate_left
      · rintro w' ⟨s0, s1, s2⟩
        go_simp
        with_reducible rfl
      rotate_left
      · simp only [Act.put, List.setIfInBounds_toArray, List.set_cons_zero, List.set_cons_succ, i64_w, i32_w]
        rfl
      refine take_ (i := 17) (N := some 23) (v := ?_) (a' := ?_) #[true, true, true, true, true, true, true, true, true, true, true, true, true, true, true, true, true, true, false, false, false, false] rfl rfl (by kernel_rfl) (fun _ _ _ h => h) (Or.inl ⟨by rfl, ?_⟩) hHeld ?_ ?_
      rotate_left
      · rintro w' ⟨s0, s1, s2⟩
        go_simp
        with_reducible rfl
      rotate_left
      · simp only [Act.put, List.setIfInBounds_toArray, List.set_cons_zero, List.set_cons_succ, i64_w, i32_w]
        rfl
      refine pure_ (i := 18) (N := some 24) (v := ?_) (a' := ?_) #[true, true, true, true, true, true, true, true, true, true, true, true, true, true, true, true, true, true, true, false, false, false] rfl rfl (by kernel_rfl) (fun _ _ _ h => h) (Or.inl ⟨by rfl, ?_⟩) ?_ ?_
      rotate_left
      · intro w'
        go_simp
        with_reducible rfl
      rotate_left
      · simp only [Act.put, List.setIfInBounds_toArray, List.set_cons_zero, List.set_cons_succ, i64_w, i32_w]
        rfl
      refine pure_ (i := 19) (N := some 25) (v := ?_) (a' := ?_) #[true, true, true, true, true, true, true, true, true, true, true, true, true, true, true, true, true, true, true, true, false, false] rfl rfl (by kernel_rfl) (fun _ _ _ h => h) (Or.inl ⟨by rfl, ?_⟩) ?_ ?_
      rotate_left
      · intro w'
        go_simp
        with_reducible rfl
      rotate_left
      · simp only [Act.put, List.setIfInBounds_toArray, List.set_cons_zero, List.set_cons_succ, i64_w, i32_w]
        rfl
      refine pure_ (i := 20) (N := some 26) (v := ?_) (a' := ?_) #[true, true, true, true, true, true, true, true, true, true, true, true, true, true, true, true, true, true, true, true, true, false] rfl rfl (by kernel_rfl) (fun _ _ _ h => h) (Or.inl ⟨by rfl, ?_⟩) ?_ ?_
      rotate_left
      · intro w'
        go_simp
        with_reducible rfl
      rotate_left
      · simp only [Act.put, List.setIfInBounds_toArray, List.set_cons_zero, List.set_cons_succ, i64_w, i32_w]
        rfl
      refine pure_ (i := 21) (N := some 5) (v := ?_) (a' := ?_) #[true, true, true, true, true, true, true, true, true, true, true, true, true, true, true, true, true, true, true, true, true, true] rfl rfl (by kernel_rfl) (fun _ _ _ h => h) (Or.inl ⟨by rfl, ?_⟩) ?_ ?_
      rotate_left
      · intro w'
        go_simp
        with_reducible rfl
      rotate_left
      · simp only [Act.put, List.setIfInBounds_toArray, List.set_cons_zero, List.set_cons_succ, i64_w, i32_w]
        rfl
      refine done_ (by kernel_rfl) ?_
      go_wp2_with fail
      refine start_ (n := 19) (S := fun w' => w'.cell? ⟨q, 0, none⟩ = some (.pointer (some ⟨p, 0, none⟩)) ∧ w'.cell? ⟨w.heap.size, 0, none⟩ = some (.int .i64 x)) (ds := []) #[false, false, false, false, false, false, false, false, false, false, false, false, false, false, false, false, false, false, false] (by kernel_rfl) rfl rfl ⟨d0, d3⟩ (fun hHeld => ?_)
      refine pure_ (i := 0) (N := some 27) (v := ?_) (a' := ?_) #[true, false, false, false, false, false, false, false, false, false, false, false, false, false, false, false, false, false, false] rfl rfl (by kernel_rfl) (fun _ _ _ h => h) (Or.inl ⟨by rfl, ?_⟩) ?_ ?_
      rotate_left
      · intro w'
        go_simp
        with_reducible rfl
      rotate_left
      · simp only [Act.put, List.setIfInBounds_toArray, List.set_cons_zero, List.set_cons_succ, i64_w, i32_w]
        rfl
      refine take_ (i := 1) (N := some 28) (v := ?_) (a' := ?_) #[true, true, false, false, false, false, false, false, false, false, false, false, false, false, false, false, false, false, false] rfl rfl (by kernel_rfl) (fun _ _ _ h => h) (Or.inl ⟨by rfl, ?_⟩) hHeld ?_ ?_
      rotate_left
      · rintro w' ⟨s0, s1⟩
        go_simp
        with_reducible rfl
      rotate_left
      · simp only [Act.put, List.setIfInBounds_toArray, List.set_cons_zero, List.set_cons_succ, i64_w, i32_w]
        rfl
      refine pure_ (i := 2) (N := some 29) (v := ?_) (a' := ?_) #[true, true, true, false, false, false, false, false, false, false, false, false, false, false, false, false, false, false, false] rfl rfl (by kernel_rfl) (fun _ _ _ h => h) (Or.inl ⟨by rfl, ?_⟩) ?_ ?_
      rotate_left
      · intro w'
        go_simp
        with_reducible rfl
      rotate_left
      · simp only [Act.put, List.setIfInBounds_toArray, List.set_cons_zero, List.set_cons_succ, i64_w, i32_w]
        rfl
      refine pure_ (i := 3) (N := some 30) (v := ?_) (a' := ?_) #[true, true, true, true, false, false, false, false, false, false, false, false, false, false, false, false, false, false, false] rfl rfl (by kernel_rfl) (fun _ _ _ h => h) (Or.inl ⟨by rfl, ?_⟩) ?_ ?_
      rotate_left
      · intro w'
        go_simp
        with_reducible rfl
      rotate_left
      · simp only [Act.put, List.setIfInBounds_toArray, List.set_cons_zero, List.set_cons_succ, i64_w, i32_w]
        rfl
      refine pure_ (i := 4) (N := some 31) (v := ?_) (a' := ?_) #[true, true, true, true, true, false, false, false, false, false, false, false, false, false, false, false, false, false, false] rfl rfl (by kernel_rfl) (fun _ _ _ h => h) (Or.inl ⟨by rfl, ?_⟩) ?_ ?_
      rotate_left
      · intro w'
        go_simp
        with_reducible rfl
      rotate_left
      · simp only [Act.put, List.setIfInBounds_toArray, List.set_cons_zero, List.set_cons_succ, i64_w, i32_w]
        rfl
      refine pure_ (i := 6) (N := some 33) (v := ?_) (a' := ?_) #[true, true, true, true, true, false, true, false, false, false, false, false, false, false, false, false, false, false, false] rfl rfl (by kernel_rfl) (fun _ _ _ h => h) (Or.inl ⟨by rfl, ?_⟩) ?_ ?_
      rotate_left
      · intro w'
        go_simp
        with_reducible rfl
      rotate_left
      · simp only [Act.put, List.setIfInBounds_toArray, List.set_cons_zero, List.set_cons_succ, i64_w, i32_w]
        rfl
      refine pure_ (i := 7) (N := some 34) (v := ?_) (a' := ?_) #[true, true, true, true, true, false, true, true, false, false, false, false, false, false, false, false, false, false, false] rfl rfl (by kernel_rfl) (fun _ _ _ h => h) (Or.inl ⟨by rfl, ?_⟩) ?_ ?_
      rotate_left
      · intro w'
        go_simp
        with_reducible rfl
      rotate_left
      · simp only [Act.put, List.setIfInBounds_toArray, List.set_cons_zero, List.set_cons_succ, i64_w, i32_w]
        rfl
      refine pure_ (i := 8) (N := some 35) (v := ?_) (a' := ?_) #[true, true, true, true, true, false, true, true, true, false, false, false, false, false, false, false, false, false, false] rfl rfl (by kernel_rfl) (fun _ _ _ h => h) (Or.inl ⟨by rfl, ?_⟩) ?_ ?_
      rotate_left
      · intro w'
        go_simp
        with_reducible rfl
      rotate_left
      · simp only [Act.put, List.setIfInBounds_toArray, List.set_cons_zero, List.set_cons_succ, i64_w, i32_w]
        rfl
      refine take_ (i := 5) (N := some 32) (v := ?_) (a' := ?_) #[true, true, true, true, true, true, true, true, true, false, false, false, false, false, false, false, false, false, false] rfl rfl (by kernel_rfl) (fun _ _ _ h => h) (Or.inl ⟨by rfl, ?_⟩) hHeld ?_ ?_
      rotate_left
      · rintro w' ⟨s0, s1⟩
        go_simp
        with_reducible rfl
      rotate_left
      · simp only [Act.put, List.setIfInBounds_toArray, List.set_cons_zero, List.set_cons_succ, i64_w, i32_w]
        rfl
      refine take_ (i := 9) (N := some 36) (v := ?_) (a' := ?_) #[true, true, true, true, true, true, true, true, true, true, false, false, false, false, false, false, false, false, false] rfl rfl (by kernel_rfl) (fun _ _ _ h => h) (Or.inl ⟨by rfl, ?_⟩) hHeld ?_ ?_
      rotate_left
      · rintro w' ⟨s0, s1⟩
        go_simp
        with_reducible rfl
      rotate_left
      · simp only [Act.put, List.setIfInBounds_toArray, List.set_cons_zero, List.set_cons_succ, i64_w, i32_w]
        rfl
      refine one_ (i := 10) (N := some 37) #[true, true, true, true, true, true, true, true, true, true, true, false, false, false, false, false, false, false, false] rfl rfl (by kernel_rfl) (by decide) (fun K hK => ?_)
      refine goes_ Tryz.func55 (by kernel_rfl) rfl #[.pointer (some ⟨p, 0, none⟩)] (by rfl) rfl rfl (by simp only [List.map_toArray, List.map_cons, List.map_nil]; rfl) ?_
      with_reducible refine (HL.out _ HBA.out.drew.drew).mono ?_
      rintro e w3 ⟨rfl, rfl⟩
      refine ⟨_, rfl, ?_⟩
      refine hK.out _ _ ⟨hHeld.1, hHeld.2⟩ (fun hHeld => ?_)
      clear hK K
      refine norm_ (a' := ?_) ?_ ?_
      rotate_left
      · show Act.put _ (some 37) _ = _
        simp only [Act.put, List.setIfInBounds_toArray, List.set_cons_zero, List.set_cons_succ, i64_w, i32_w]
        rfl
      refine pure_ (i := 11) (N := some 38) (v := ?_) (a' := ?_) #[true, true, true, true, true, true, true, true, true, true, true, true, false, false, false, false, false, false, false] rfl rfl (by kernel_rfl) (fun _ _ _ h => h) (Or.inl ⟨by rfl, ?_⟩) ?_ ?_
      rotate_left
      · intro w'
        go_simp
        with_reducible rfl
      rotate_left
      · simp only [Act.put, List.setIfInBounds_toArray, List.set_cons_zero, List.set_cons_succ, i64_w, i32_w]
        rfl
      refine pure_ (i := 12) (N := some 39) (v := ?_) (a' := ?_) #[true, true, true, true, true, true, true, true, true, true, true, true, true, false, false, false, false, false, false] rfl rfl (by kernel_rfl) (fun _ _ _ h => h) (Or.inl ⟨by rfl, ?_⟩) ?_ ?_
      rotate_left
      · intro w'
        go_simp
        with_reducible rfl
      rotate_left
      · simp only [Act.put, List.setIfInBounds_toArray, List.set_cons_zero, List.set_cons_succ, i64_w, i32_w]
        rfl
      refine pure_ (i := 13) (N := some 40) (v := ?_) (a' := ?_) #[true, true, true, true, true, true, true, true, true, true, true, true, true, true, false, false, false, false, false] rfl rfl (by kernel_rfl) (fun _ _ _ h => h) (Or.inl ⟨by rfl, ?_⟩) ?_ ?_
      rotate_left
      · intro w'
        go_simp
        with_reducible rfl
      rotate_left
      · simp only [Act.put, List.setIfInBounds_toArray, List.set_cons_zero, List.set_cons_succ, i64_w, i32_w]
        rfl
      refine pure_ (i := 14) (N := some 41) (v := ?_) (a' := ?_) #[true, true, true, true, true, true, true, true, true, true, true, true, true, true, true, false, false, false, false] rfl rfl (by kernel_rfl) (fun _ _ _ h => h) (Or.inl ⟨by rfl, ?_⟩) ?_ ?_
      rotate_left
      · intro w'
        go_simp
        with_reducible rfl
      rotate_left
      · simp only [Act.put, List.setIfInBounds_toArray, List.set_cons_zero, List.set_cons_succ, i64_w, i32_w]
        rfl
      refine pure_ (i := 15) (N := some 42) (v := undef) (a' := ?_) #[true, true, true, true, true, true, true, true, true, true, true, true, true, true, true, true, false, false, false] rfl rfl (by kernel_rfl) (fun _ _ _ h => h) (Or.inr ⟨by rfl, rfl⟩) ?_ ?_
      rotate_left
      · simp only [Act.put, List.setIfInBounds_toArray, List.set_cons_zero, List.set_cons_succ, i64_w, i32_w]
        rfl
      refine pure_ (i := 16) (N := some 43) (v := undef) (a' := ?_) #[true, true, true, true, true, true, true, true, true, true, true, true, true, true, true, true, true, false, false] rfl rfl (by kernel_rfl) (fun _ _ _ h => h) (Or.inr ⟨by rfl, rfl⟩) ?_ ?_
      rotate_left
      · simp only [Act.put, List.setIfInBounds_toArray, List.set_cons_zero, List.set_cons_succ, i64_w, i32_w]
        rfl
      refine pure_ (i := 17) (N := some 44) (v := ?_) (a' := ?_) #[true, true, true, true, true, true, true, true, true, true, true, true, true, true, true, true, true, true, false] rfl rfl (by kernel_rfl) (fun _ _ _ h => h) (Or.inl ⟨by rfl, ?_⟩) ?_ ?_
      rotate_left
      · intro w'
        go_simp
        with_reducible rfl
      rotate_left
      · simp only [Act.put, List.setIfInBounds_toArray, List.set_cons_zero, List.set_cons_succ, i64_w, i32_w]
        rfl
      refine pure_ (i := 18) (N := some 4) (v := ?_) (a' := ?_) #[true, true, true, true, true, true, true, true, true, true, true, true, true, true, true, true, true, true, true] rfl rfl (by kernel_rfl) (fun _ _ _ h => h) (Or.inl ⟨by rfl, ?_⟩) ?_ ?_
      rotate_left
      · intro w'
        go_simp
        with_reducible rfl
      rotate_left
      · simp only [Act.put, List.setIfInBounds_toArray, List.set_cons_zero, List.set_cons_succ, i64_w, i32_w]
        rfl
      refine done_ (by kernel_rfl) ?_
      go_wp2_with fail
      go_ret
      exact ⟨by rw [HR.out]; rfl, HBA.out.drew.drew⟩
    · rw [decide_eq_true h3] at HR
      have z3 : decide ((0 : Int) ≤ x) = true := decide_eq_true h3
      rw [decide_eq_true h4] at HR
      have z4 : decide (x < (n : Int)) = true := decide_eq_true h4
      clear h3 h4
      refine start_ (n := 22) (S := fun w' => w'.cell? ⟨q, 1, none⟩ = some (.int .i64 a) ∧ w'.cell? ⟨q, 2, none⟩ = some (.int .i64 k) ∧ w'.cell? ⟨w.heap.size, 0, none⟩ = some (.int .i64 x)) (ds := []) #[false, false, false, false, false, false, false, false, false, false, false, false, false, false, false, false, false, false, false, false, false, false] (by kernel_rfl) rfl rfl ⟨d1, d2, d3⟩ (fun hHeld => ?_)
      refine pure_ (i := 0) (N := some 6) (v := ?_) (a' := ?_) #[true, false, false, false, false, false, false, false, false, false, false, false, false, false, false, false, false, false, false, false, false, false] rfl rfl (by kernel_rfl) (fun _ _ _ h => h) (Or.inl ⟨by rfl, ?_⟩) ?_ ?_
      rotate_left
      · intro w'
        go_simp
        with_reducible rfl
      rotate_left
      · simp only [Act.put, List.setIfInBounds_toArray, List.set_cons_zero, List.set_cons_succ, i64_w, i32_w]
        rfl
      refine pure_ (i := 2) (N := some 8) (v := ?_) (a' := ?_) #[true, false, true, false, false, false, false, false, false, false, false, false, false, false, false, false, false, false, false, false, false, false] rfl rfl (by kernel_rfl) (fun _ _ _ h => h) (Or.inl ⟨by rfl, ?_⟩) ?_ ?_
      rotate_left
      · intro w'
        go_simp
        with_reducible rfl
      rotate_left
      · simp only [Act.put, List.setIfInBounds_toArray, List.set_cons_zero, List.set_cons_succ, i64_w, i32_w]
        rfl
      refine pure_ (i := 3) (N := some 9) (v := ?_) (a' := ?_) #[true, false, true, true, false, false, false, false, false, false, false, false, false, false, false, false, false, false, false, false, false, false] rfl rfl (by kernel_rfl) (fun _ _ _ h => h) (Or.inl ⟨by rfl, ?_⟩) ?_ ?_
      rotate_left
      · intro w'
        go_simp
        with_reducible rfl
      rotate_left
      · simp only [Act.put, List.setIfInBounds_toArray, List.set_cons_zero, List.set_cons_succ, i64_w, i32_w]
        rfl
      refine pure_ (i := 4) (N := some 10) (v := ?_) (a' := ?_) #[true, false, true, true, true, false, false, false, false, false, false, false, false, false, false, false, false, false, false, false, false, false] rfl rfl (by kernel_rfl) (fun _ _ _ h => h) (Or.inl ⟨by rfl, ?_⟩) ?_ ?_
      rotate_left
      · intro w'
        go_simp
        with_reducible rfl
      rotate_left
      · simp only [Act.put, List.setIfInBounds_toArray, List.set_cons_zero, List.set_cons_succ, i64_w, i32_w]
        rfl
      refine take_ (i := 1) (N := some 7) (v := ?_) (a' := ?_) #[true, true, true, true, true, false, false, false, false, false, false, false, false, false, false, false, false, false, false, false, false, false] rfl rfl (by kernel_rfl) (fun _ _ _ h => h) (Or.inl ⟨by rfl, ?_⟩) hHeld ?_ ?_
      rotate_left
      · rintro w' ⟨s0, s1, s2⟩
        go_simp
        with_reducible rfl
      rotate_left
      · simp only [Act.put, List.setIfInBounds_toArray, List.set_cons_zero, List.set_cons_succ, i64_w, i32_w]
        rfl
      refine take_ (i := 5) (N := some 11) (v := ?_) (a' := ?_) #[true, true, true, true, true, true, false, false, false, false, false, false, false, false, false, false, false, false, false, false, false, false] rfl rfl (by kernel_rfl) (fun _ _ _ h => h) (Or.inl ⟨by rfl, ?_⟩) hHeld ?_ ?_
      rotate_left
      · rintro w' ⟨s0, s1, s2⟩
        go_simp
        with_reducible rfl
      rotate_left
      · simp only [Act.put, List.setIfInBounds_toArray, List.set_cons_zero, List.set_cons_succ, i64_w, i32_w]
        rfl
      refine pure_ (i := 6) (N := some 12) (v := ?_) (a' := ?_) #[true, true, true, true, true, true, true, false, false, false, false, false, false, false, false, false, false, false, false, false, false, false] rfl rfl (by kernel_rfl) (fun _ _ _ h => h) (Or.inl ⟨by rfl, ?_⟩) ?_ ?_
      rotate_left
      · intro w'
        go_simp
        with_reducible rfl
      rotate_left
      · simp only [Act.put, List.setIfInBounds_toArray, List.set_cons_zero, List.set_cons_succ, i64_w, i32_w]
        rfl
      refine pure_ (i := 7) (N := some 13) (v := ?_) (a' := ?_) #[true, true, true, true, true, true, true, true, false, false, false, false, false, false, false, false, false, false, false, false, false, false] rfl rfl (by kernel_rfl) (fun _ _ _ h => h) (Or.inl ⟨by rfl, ?_⟩) ?_ ?_
      rotate_left
      · intro w'
        go_simp
        with_reducible rfl
      rotate_left
      · simp only [Act.put, List.setIfInBounds_toArray, List.set_cons_zero, List.set_cons_succ, i64_w, i32_w]
        rfl
      refine pure_ (i := 8) (N := some 14) (v := ?_) (a' := ?_) #[true, true, true, true, true, true, true, true, true, false, false, false, false, false, false, false, false, false, false, false, false, false] rfl rfl (by kernel_rfl) (fun _ _ _ h => h) (Or.inl ⟨by rfl, ?_⟩) ?_ ?_
      rotate_left
      · intro w'
        go_simp
        with_reducible rfl
      rotate_left
      · simp only [Act.put, List.setIfInBounds_toArray, List.set_cons_zero, List.set_cons_succ, i64_w, i32_w]
        rfl
      refine pure_ (i := 10) (N := some 16) (v := ?_) (a' := ?_) #[true, true, true, true, true, true, true, true, true, false, true, false, false, false, false, false, false, false, false, false, false, false] rfl rfl (by kernel_rfl) (fun _ _ _ h => h) (Or.inl ⟨by rfl, ?_⟩) ?_ ?_
      rotate_left
      · intro w'
        go_simp
        with_reducible rfl
      rotate_left
      · simp only [Act.put, List.setIfInBounds_toArray, List.set_cons_zero, List.set_cons_succ, i64_w, i32_w]
        rfl
      refine pure_ (i := 11) (N := some 17) (v := ?_) (a' := ?_) #[true, true, true, true, true, true, true, true, true, false, true, true, false, false, false, false, false, false, false, false, false, false] rfl rfl (by kernel_rfl) (fun _ _ _ h => h) (Or.inl ⟨by rfl, ?_⟩) ?_ ?_
      rotate_left
      · intro w'
        go_simp
        with_reducible rfl
      rotate_left
      · simp only [Act.put, List.setIfInBounds_toArray, List.set_cons_zero, List.set_cons_succ, i64_w, i32_w]
        rfl
      refine pure_ (i := 12) (N := some 18) (v := ?_) (a' := ?_) #[true, true, true, true, true, true, true, true, true, false, true, true, true, false, false, false, false, false, false, false, false, false] rfl rfl (by kernel_rfl) (fun _ _ _ h => h) (Or.inl ⟨by rfl, ?_⟩) ?_ ?_
      rotate_left
      · intro w'
        go_simp
        with_reducible rfl
      rotate_left
      · simp only [Act.put, List.setIfInBounds_toArray, List.set_cons_zero, List.set_cons_succ, i64_w, i32_w]
        rfl
      refine pure_ (i := 14) (N := some 20) (v := ?_) (a' := ?_) #[true, true, true, true, true, true, true, true, true, false, true, true, true, false, true, false, false, false, false, false, false, false] rfl rfl (by kernel_rfl) (fun _ _ _ h => h) (Or.inl ⟨by rfl, ?_⟩) ?_ ?_
      rotate_left
      · intro w'
        go_simp
        with_reducible rfl
      rotate_left
      · simp only [Act.put, List.setIfInBounds_toArray, List.set_cons_zero, List.set_cons_succ, i64_w, i32_w]
        rfl
      refine pure_ (i := 15) (N := some 21) (v := ?_) (a' := ?_) #[true, true, true, true, true, true, true, true, true, false, true, true, true, false, true, true, false, false, false, false, false, false] rfl rfl (by kernel_rfl) (fun _ _ _ h => h) (Or.inl ⟨by rfl, ?_⟩) ?_ ?_
      rotate_left
      · intro w'
        go_simp
        with_reducible rfl
      rotate_left
      · simp only [Act.put, List.setIfInBounds_toArray, List.set_cons_zero, List.set_cons_succ, i64_w, i32_w]
        rfl
      refine pure_ (i := 16) (N := some 22) (v := ?_) (a' := ?_) #[true, true, true, true, true, true, true, true, true, false, true, true, true, false, true, true, true, false, false, false, false, false] rfl rfl (by kernel_rfl) (fun _ _ _ h => h) (Or.inl ⟨by rfl, ?_⟩) ?_ ?_
      rotate_left
      · intro w'
        go_simp
        with_reducible rfl
      rotate_left
      · simp only [Act.put, List.setIfInBounds_toArray, List.set_cons_zero, List.set_cons_succ, i64_w, i32_w]
        rfl
      refine take_ (i := 9) (N := some 15) (v := ?_) (a' := ?_) #[true, true, true, true, true, true, true, true, true, true, true, true, true, false, true, true, true, false, false, false, false, false] rfl rfl (by kernel_rfl) (fun _ _ _ h => h) (Or.inl ⟨by rfl, ?_⟩) hHeld ?_ ?_
      rotate_left
      · rintro w' ⟨s0, s1, s2⟩
        go_simp
        with_reducible rfl
      rotate_left
      · simp only [Act.put, List.setIfInBounds_toArray, List.set_cons_zero, List.set_cons_succ, i64_w, i32_w]
        rfl
      refine take_ (i := 13) (N := some 19) (v := ?_) (a' := ?_) #[true, true, true, true, true, true, true, true, true, true, true, true, true, true, true, true, true, false, false, false, false, false] rfl rfl (by kernel_rfl) (fun _ _ _ h => h) (Or.inl ⟨by rfl, ?_⟩) hHeld ?_ ?_
      rotate_left
      · rintro w' ⟨s0, s1, s2⟩
        go_simp
        with_reducible rfl
      rotate_left
      · simp only [Act.put, List.setIfInBounds_toArray, List.set_cons_zero, List.set_cons_succ, i64_w, i32_w]
        rfl
      refine take_ (i := 17) (N := some 23) (v := ?_) (a' := ?_) #[true, true, true, true, true, true, true, true, true, true, true, true, true, true, true, true, true, true, false, false, false, false] rfl rfl (by kernel_rfl) (fun _ _ _ h => h) (Or.inl ⟨by rfl, ?_⟩) hHeld ?_ ?_
      rotate_left
      · rintro w' ⟨s0, s1, s2⟩
        go_simp
        with_reducible rfl
      rotate_left
      · simp only [Act.put, List.setIfInBounds_toArray, List.set_cons_zero, List.set_cons_succ, i64_w, i32_w]
        rfl
      refine pure_ (i := 18) (N := some 24) (v := ?_) (a' := ?_) #[true, true, true, true, true, true, true, true, true, true, true, true, true, true, true, true, true, true, true, false, false, false] rfl rfl (by kernel_rfl) (fun _ _ _ h => h) (Or.inl ⟨by rfl, ?_⟩) ?_ ?_
      rotate_left
      · intro w'
        go_simp
        with_reducible rfl
      rotate_left
      · simp only [Act.put, List.setIfInBounds_toArray, List.set_cons_zero, List.set_cons_succ, i64_w, i32_w]
        rfl
      refine pure_ (i := 19) (N := some 25) (v := ?_) (a' := ?_) #[true, true, true, true, true, true, true, true, true, true, true, true, true, true, true, true, true, true, true, true, false, false] rfl rfl (by kernel_rfl) (fun _ _ _ h => h) (Or.inl ⟨by rfl, ?_⟩) ?_ ?_
      rotate_left
      · intro w'
        go_simp
        with_reducible rfl
      rotate_left
      · simp only [Act.put, List.setIfInBounds_toArray, List.set_cons_zero, List.set_cons_succ, i64_w, i32_w]
        rfl
      refine pure_ (i := 20) (N := some 26) (v := ?_) (a' := ?_) #[true, true, true, true, true, true, true, true, true, true, true, true, true, true, true, true, true, true, true, true, true, false] rfl rfl (by kernel_rfl) (fun _ _ _ h => h) (Or.inl ⟨by rfl, ?_⟩) ?_ ?_
      rotate_left
      · intro w'
        go_simp
        with_reducible rfl
      rotate_left
      · simp only [Act.put, List.setIfInBounds_toArray, List.set_cons_zero, List.set_cons_succ, i64_w, i32_w]
        rfl
      refine pure_ (i := 21) (N := some 5) (v := ?_) (a' := ?_) #[true, true, true, true, true, true, true, true, true, true, true, true, true, true, true, true, true, true, true, true, true, true] rfl rfl (by kernel_rfl) (fun _ _ _ h => h) (Or.inl ⟨by rfl, ?_⟩) ?_ ?_
      rotate_left
      · intro w'
        go_simp
        with_reducible rfl
      rotate_left
      · simp only [Act.put, List.setIfInBounds_toArray, List.set_cons_zero, List.set_cons_succ, i64_w, i32_w]
        rfl
      refine done_ (by kernel_rfl) ?_
      go_wp2_with fail
      refine start_ (n := 19) (S := fun w' => w'.cell? ⟨q, 0, none⟩ = some (.pointer (some ⟨p, 0, none⟩)) ∧ w'.cell? ⟨w.heap.size, 0, none⟩ = some (.int .i64 x)) (ds := []) #[false, false, false, false, false, false, false, false, false, false, false, false, false, false, false, false, false, false, false] (by kernel_rfl) rfl rfl ⟨d0, d3⟩ (fun hHeld => ?_)
      refine pure_ (i := 0) (N := some 27) (v := ?_) (a' := ?_) #[true, false, false, false, false, false, false, false, false, false, false, false, false, false, false, false, false, false, false] rfl rfl (by kernel_rfl) (fun _ _ _ h => h) (Or.inl ⟨by rfl, ?_⟩) ?_ ?_
      rotate_left
      · intro w'
        go_simp
        with_reducible rfl
      rotate_left
      · simp only [Act.put, List.setIfInBounds_toArray, List.set_cons_zero, List.set_cons_succ, i64_w, i32_w]
        rfl
      refine take_ (i := 1) (N := some 28) (v := ?_) (a' := ?_) #[true, true, false, false, false, false, false, false, false, false, false, false, false, false, false, false, false, false, false] rfl rfl (by kernel_rfl) (fun _ _ _ h => h) (Or.inl ⟨by rfl, ?_⟩) hHeld ?_ ?_
      rotate_left
      · rintro w' ⟨s0, s1⟩
        go_simp
        with_reducible rfl
      rotate_left
      · simp only [Act.put, List.setIfInBounds_toArray, List.set_cons_zero, List.set_cons_succ, i64_w, i32_w]
        rfl
      refine pure_ (i := 2) (N := some 29) (v := ?_) (a' := ?_) #[true, true, true, false, false, false, false, false, false, false, false, false, false, false, false, false, false, false, false] rfl rfl (by kernel_rfl) (fun _ _ _ h => h) (Or.inl ⟨by rfl, ?_⟩) ?_ ?_
      rotate_left
      · intro w'
        go_simp
        with_reducible rfl
      rotate_left
      · simp only [Act.put, List.setIfInBounds_toArray, List.set_cons_zero, List.set_cons_succ, i64_w, i32_w]
        rfl
      refine pure_ (i := 3) (N := some 30) (v := ?_) (a' := ?_) #[true, true, true, true, false, false, false, false, false, false, false, false, false, false, false, false, false, false, false] rfl rfl (by kernel_rfl) (fun _ _ _ h => h) (Or.inl ⟨by rfl, ?_⟩) ?_ ?_
      rotate_left
      · intro w'
        go_simp
        with_reducible rfl
      rotate_left
      · simp only [Act.put, List.setIfInBounds_toArray, List.set_cons_zero, List.set_cons_succ, i64_w, i32_w]
        rfl
      refine pure_ (i := 4) (N := some 31) (v := ?_) (a' := ?_) #[true, true, true, true, true, false, false, false, false, false, false, false, false, false, false, false, false, false, false] rfl rfl (by kernel_rfl) (fun _ _ _ h => h) (Or.inl ⟨by rfl, ?_⟩) ?_ ?_
      rotate_left
      · intro w'
        go_simp
        with_reducible rfl
      rotate_left
      · simp only [Act.put, List.setIfInBounds_toArray, List.set_cons_zero, List.set_cons_succ, i64_w, i32_w]
        rfl
      refine pure_ (i := 6) (N := some 33) (v := ?_) (a' := ?_) #[true, true, true, true, true, false, true, false, false, false, false, false, false, false, false, false, false, false, false] rfl rfl (by kernel_rfl) (fun _ _ _ h => h) (Or.inl ⟨by rfl, ?_⟩) ?_ ?_
      rotate_left
      · intro w'
        go_simp
        with_reducible rfl
      rotate_left
      · simp only [Act.put, List.setIfInBounds_toArray, List.set_cons_zero, List.set_cons_succ, i64_w, i32_w]
        rfl
      refine pure_ (i := 7) (N := some 34) (v := ?_) (a' := ?_) #[true, true, true, true, true, false, true, true, false, false, false, false, false, false, false, false, false, false, false] rfl rfl (by kernel_rfl) (fun _ _ _ h => h) (Or.inl ⟨by rfl, ?_⟩) ?_ ?_
      rotate_left
      · intro w'
        go_simp
        with_reducible rfl
      rotate_left
      · simp only [Act.put, List.setIfInBounds_toArray, List.set_cons_zero, List.set_cons_succ, i64_w, i32_w]
        rfl
      refine pure_ (i := 8) (N := some 35) (v := ?_) (a' := ?_) #[true, true, true, true, true, false, true, true, true, false, false, false, false, false, false, false, false, false, false] rfl rfl (by kernel_rfl) (fun _ _ _ h => h) (Or.inl ⟨by rfl, ?_⟩) ?_ ?_
      rotate_left
      · intro w'
        go_simp
        with_reducible rfl
      rotate_left
      · simp only [Act.put, List.setIfInBounds_toArray, List.set_cons_zero, List.set_cons_succ, i64_w, i32_w]
        rfl
      refine take_ (i := 5) (N := some 32) (v := ?_) (a' := ?_) #[true, true, true, true, true, true, true, true, true, false, false, false, false, false, false, false, false, false, false] rfl rfl (by kernel_rfl) (fun _ _ _ h => h) (Or.inl ⟨by rfl, ?_⟩) hHeld ?_ ?_
      rotate_left
      · rintro w' ⟨s0, s1⟩
        go_simp
        with_reducible rfl
      rotate_left
      · simp only [Act.put, List.setIfInBounds_toArray, List.set_cons_zero, List.set_cons_succ, i64_w, i32_w]
        rfl
      refine take_ (i := 9) (N := some 36) (v := ?_) (a' := ?_) #[true, true, true, true, true, true, true, true, true, true, false, false, false, false, false, false, false, false, false] rfl rfl (by kernel_rfl) (fun _ _ _ h => h) (Or.inl ⟨by rfl, ?_⟩) hHeld ?_ ?_
      rotate_left
      · rintro w' ⟨s0, s1⟩
        go_simp
        with_reducible rfl
      rotate_left
      · simp only [Act.put, List.setIfInBounds_toArray, List.set_cons_zero, List.set_cons_succ, i64_w, i32_w]
        rfl
      refine one_ (i := 10) (N := some 37) #[true, true, true, true, true, true, true, true, true, true, true, false, false, false, false, false, false, false, false] rfl rfl (by kernel_rfl) (by decide) (fun K hK => ?_)
      refine goes_ Tryz.func55 (by kernel_rfl) rfl #[.pointer (some ⟨p, 0, none⟩)] (by rfl) rfl rfl (by simp only [List.map_toArray, List.map_cons, List.map_nil]; rfl) ?_
      with_reducible refine (HL.out _ HBA.out.drew.drew).mono ?_
      rintro e w3 ⟨rfl, rfl⟩
      refine ⟨_, rfl, ?_⟩
      refine hK.out _ _ ⟨hHeld.1, hHeld.2⟩ (fun hHeld => ?_)
      clear hK K
      refine norm_ (a' := ?_) ?_ ?_
      rotate_left
      · show Act.put _ (some 37) _ = _
        simp only [Act.put, List.setIfInBounds_toArray, List.set_cons_zero, List.set_cons_succ, i64_w, i32_w]
        rfl
      refine pure_ (i := 11) (N := some 38) (v := ?_) (a' := ?_) #[true, true, true, true, true, true, true, true, true, true, true, true, false, false, false, false, false, false, false] rfl rfl (by kernel_rfl) (fun _ _ _ h => h) (Or.inl ⟨by rfl, ?_⟩) ?_ ?_
      rotate_left
      · intro w'
        go_simp
        with_reducible rfl
      rotate_left
      · simp only [Act.put, List.setIfInBounds_toArray, List.set_cons_zero, List.set_cons_succ, i64_w, i32_w]
        rfl
      refine pure_ (i := 12) (N := some 39) (v := ?_) (a' := ?_) #[true, true, true, true, true, true, true, true, true, true, true, true, true, false, false, false, false, false, false] rfl rfl (by kernel_rfl) (fun _ _ _ h => h) (Or.inl ⟨by rfl, ?_⟩) ?_ ?_
      rotate_left
      · intro w'
        go_simp
        with_reducible rfl
      rotate_left
      · simp only [Act.put, List.setIfInBounds_toArray, List.set_cons_zero, List.set_cons_succ, i64_w, i32_w]
        rfl
      refine pure_ (i := 13) (N := some 40) (v := ?_) (a' := ?_) #[true, true, true, true, true, true, true, true, true, true, true, true, true, true, false, false, false, false, false] rfl rfl (by kernel_rfl) (fun _ _ _ h => h) (Or.inl ⟨by rfl, ?_⟩) ?_ ?_
      rotate_left
      · intro w'
        go_simp
        with_reducible rfl
      rotate_left
      · simp only [Act.put, List.setIfInBounds_toArray, List.set_cons_zero, List.set_cons_succ, i64_w, i32_w]
        rfl
      refine pure_ (i := 14) (N := some 41) (v := ?_) (a' := ?_) #[true, true, true, true, true, true, true, true, true, true, true, true, true, true, true, false, false, false, false] rfl rfl (by kernel_rfl) (fun _ _ _ h => h) (Or.inl ⟨by rfl, ?_⟩) ?_ ?_
      rotate_left
      · intro w'
        go_simp
        with_reducible rfl
      rotate_left
      · simp only [Act.put, List.setIfInBounds_toArray, List.set_cons_zero, List.set_cons_succ, i64_w, i32_w]
        rfl
      refine pure_ (i := 15) (N := some 42) (v := ?_) (a' := ?_) #[true, true, true, true, true, true, true, true, true, true, true, true, true, true, true, true, false, false, false] rfl rfl (by kernel_rfl) (fun _ _ _ h => h) (Or.inl ⟨by rfl, ?_⟩) ?_ ?_
      rotate_left
      · intro w'
        go_simp
        with_reducible rfl
      rotate_left
      · simp only [Act.put, List.setIfInBounds_toArray, List.set_cons_zero, List.set_cons_succ, i64_w, i32_w]
        rfl
      refine pure_ (i := 16) (N := some 43) (v := ?_) (a' := ?_) #[true, true, true, true, true, true, true, true, true, true, true, true, true, true, true, true, true, false, false] rfl rfl (by kernel_rfl) (fun _ _ _ h => h) (Or.inl ⟨by rfl, ?_⟩) ?_ ?_
      rotate_left
      · intro w'
        go_simp
        with_reducible rfl
      rotate_left
      · simp only [Act.put, List.setIfInBounds_toArray, List.set_cons_zero, List.set_cons_succ, i64_w, i32_w]
        rfl
      refine pure_ (i := 17) (N := some 44) (v := ?_) (a' := ?_) #[true, true, true, true, true, true, true, true, true, true, true, true, true, true, true, true, true, true, false] rfl rfl (by kernel_rfl) (fun _ _ _ h => h) (Or.inl ⟨by rfl, ?_⟩) ?_ ?_
      rotate_left
      · intro w'
        go_simp
        with_reducible rfl
      rotate_left
      · simp only [Act.put, List.setIfInBounds_toArray, List.set_cons_zero, List.set_cons_succ, i64_w, i32_w]
        rfl
      refine pure_ (i := 18) (N := some 4) (v := ?_) (a' := ?_) #[true, true, true, true, true, true, true, true, true, true, true, true, true, true, true, true, true, true, true] rfl rfl (by kernel_rfl) (fun _ _ _ h => h) (Or.inl ⟨by rfl, ?_⟩) ?_ ?_
      rotate_left
      · intro w'
        go_simp
        with_reducible rfl
      rotate_left
      · simp only [Act.put, List.setIfInBounds_toArray, List.set_cons_zero, List.set_cons_succ, i64_w, i32_w]
        rfl
      refine done_ (by kernel_rfl) ?_
      go_wp2_with fail
      go_ret
      exact ⟨by rw [HR.out]; rfl, HBA.out.drew.drew⟩
  · rw [decide_eq_false h1] at HR
    have z1 : decide ((a : Int) ≤ x) = false := decide_eq_false h1
    clear h1
    rcases (show ¬ (0 : Int) ≤ x ∨ ((0 : Int) ≤ x ∧ ¬ x < (n : Int)) ∨ ((0 : Int) ≤ x ∧ x < (n : Int)) by omega) with h3 | ⟨h3, h4⟩ | ⟨h3, h4⟩
    · rw [decide_eq_false h3] at HR
      have z3 : decide ((0 : Int) ≤ x) = false := decide_eq_false h3
      clear h3
      refine start_ (n := 22) (S := fun w' => w'.cell? ⟨q, 1, none⟩ = some (.int .i64 a) ∧ w'.cell? ⟨q, 2, none⟩ = some (.int .i64 k) ∧ w'.cell? ⟨w.heap.size, 0, none⟩ = some (.int .i64 x)) (ds := []) #[false, false, false, false, false, false, false, false, false, false, false, false, false, false, false, false, false, false, false, false, false, false] (by kernel_rfl) rfl rfl ⟨d1, d2, d3⟩ (fun hHeld => ?_)
      refine pure_ (i := 0) (N := some 6) (v := ?_) (a' := ?_) #[true, false, false, false, false, false, false, false, false, false, false, false, false, false, false, false, false, false, false, false, false, false] rfl rfl (by kernel_rfl) (fun _ _ _ h => h) (Or.inl ⟨by rfl, ?_⟩) ?_ ?_
      rotate_left
      · intro w'
        go_simp
        with_reducible rfl
      rotate_left
      · simp only [Act.put, List.setIfInBounds_toArray, List.set_cons_zero, List.set_cons_succ, i64_w, i32_w]
        rfl
      refine pure_ (i := 2) (N := some 8) (v := ?_) (a' := ?_) #[true, false, true, false, false, false, false, false, false, false, false, false, false, false, false, false, false, false, false, false, false, false] rfl rfl (by kernel_rfl) (fun _ _ _ h => h) (Or.inl ⟨by rfl, ?_⟩) ?_ ?_
      rotate_left
      · intro w'
        go_simp
        with_reducible rfl
      rotate_left
      · simp only [Act.put, List.setIfInBounds_toArray, List.set_cons_zero, List.set_cons_succ, i64_w, i32_w]
        rfl
      refine pure_ (i := 3) (N := some 9) (v := ?_) (a' := ?_) #[true, false, true, true, false, false, false, false, false, false, false, false, false, false, false, false, false, false, false, false, false, false] rfl rfl (by kernel_rfl) (fun _ _ _ h => h) (Or.inl ⟨by rfl, ?_⟩) ?_ ?_
      rotate_left
      · intro w'
        go_simp
        with_reducible rfl
      rotate_left
      · simp only [Act.put, List.setIfInBounds_toArray, List.set_cons_zero, List.set_cons_succ, i64_w, i32_w]
        rfl
      refine pure_ (i := 4) (N := some 10) (v := ?_) (a' := ?_) #[true, false, true, true, true, false, false, false, false, false, false, false, false, false, false, false, false, false, false, false, false, false] rfl rfl (by kernel_rfl) (fun _ _ _ h => h) (Or.inl ⟨by rfl, ?_⟩) ?_ ?_
      rotate_left
      · intro w'
        go_simp
        with_reducible rfl
      rotate_left
      · simp only [Act.put, List.setIfInBounds_toArray, List.set_cons_zero, List.set_cons_succ, i64_w, i32_w]
        rfl
      refine take_ (i := 1) (N := some 7) (v := ?_) (a' := ?_) #[true, true, true, true, true, false, false, false, false, false, false, false, false, false, false, false, false, false, false, false, false, false] rfl rfl (by kernel_rfl) (fun _ _ _ h => h) (Or.inl ⟨by rfl, ?_⟩) hHeld ?_ ?_
      rotate_left
      · rintro w' ⟨s0, s1, s2⟩
        go_simp
        with_reducible rfl
      rotate_left
      · simp only [Act.put, List.setIfInBounds_toArray, List.set_cons_zero, List.set_cons_succ, i64_w, i32_w]
        rfl
      refine take_ (i := 5) (N := some 11) (v := ?_) (a' := ?_) #[true, true, true, true, true, true, false, false, false, false, false, false, false, false, false, false, false, false, false, false, false, false] rfl rfl (by kernel_rfl) (fun _ _ _ h => h) (Or.inl ⟨by rfl, ?_⟩) hHeld ?_ ?_
      rotate_left
      · rintro w' ⟨s0, s1, s2⟩
        go_simp
        with_reducible rfl
      rotate_left
      · simp only [Act.put, List.setIfInBounds_toArray, List.set_cons_zero, List.set_cons_succ, i64_w, i32_w]
        rfl
      refine pure_ (i := 6) (N := some 12) (v := ?_) (a' := ?_) #[true, true, true, true, true, true, true, false, false, false, false, false, false, false, false, false, false, false, false, false, false, false] rfl rfl (by kernel_rfl) (fun _ _ _ h => h) (Or.inl ⟨by rfl, ?_⟩) ?_ ?_
      rotate_left
      · intro w'
        go_simp
        with_reducible rfl
      rotate_left
      · simp only [Act.put, List.setIfInBounds_toArray, List.set_cons_zero, List.set_cons_succ, i64_w, i32_w]
        rfl
      refine pure_ (i := 7) (N := some 13) (v := ?_) (a' := ?_) #[true, true, true, true, true, true, true, true, false, false, false, false, false, false, false, false, false, false, false, false, false, false] rfl rfl (by kernel_rfl) (fun _ _ _ h => h) (Or.inl ⟨by rfl, ?_⟩) ?_ ?_
      rotate_left
      · intro w'
        go_simp
        with_reducible rfl
      rotate_left
      · simp only [Act.put, List.setIfInBounds_toArray, List.set_cons_zero, List.set_cons_succ, i64_w, i32_w]
        rfl
      refine pure_ (i := 8) (N := some 14) (v := undef) (a' := ?_) #[true, true, true, true, true, true, true, true, true, false, false, false, false, false, false, false, false, false, false, false, false, false] rfl rfl (by kernel_rfl) (fun _ _ _ h => h) (Or.inr ⟨by rfl, rfl⟩) ?_ ?_
      rotate_left
      · simp only [Act.put, List.setIfInBounds_toArray, List.set_cons_zero, List.set_cons_succ, i64_w, i32_w]
        rfl
      refine pure_ (i := 9) (N := some 15) (v := undef) (a' := ?_) #[true, true, true, true, true, true, true, true, true, true, false, false, false, false, false, false, false, false, false, false, false, false] rfl rfl (by kernel_rfl) (fun _ _ _ h => h) (Or.inr ⟨by rfl, rfl⟩) ?_ ?_
      rotate_left
      · simp only [Act.put, List.setIfInBounds_toArray, List.set_cons_zero, List.set_cons_succ, i64_w, i32_w]
        rfl
      refine pure_ (i := 10) (N := some 16) (v := undef) (a' := ?_) #[true, true, true, true, true, true, true, true, true, true, true, false, false, false, false, false, false, false, false, false, false, false] rfl rfl (by kernel_rfl) (fun _ _ _ h => h) (Or.inr ⟨by rfl, rfl⟩) ?_ ?_
      rotate_left
      · simp only [Act.put, List.setIfInBounds_toArray, List.set_cons_zero, List.set_cons_succ, i64_w, i32_w]
        rfl
      refine pure_ (i := 11) (N := some 17) (v := undef) (a' := ?_) #[true, true, true, true, true, true, true, true, true, true, true, true, false, false, false, false, false, false, false, false, false, false] rfl rfl (by kernel_rfl) (fun _ _ _ h => h) (Or.inr ⟨by rfl, rfl⟩) ?_ ?_
      rotate_left
      · simp only [Act.put, List.setIfInBounds_toArray, List.set_cons_zero, List.set_cons_succ, i64_w, i32_w]
        rfl
      refine pure_ (i := 12) (N := some 18) (v := undef) (a' := ?_) #[true, true, true, true, true, true, true, true, true, true, true, true, true, false, false, false, false, false, false, false, false, false] rfl rfl (by kernel_rfl) (fun _ _ _ h => h) (Or.inr ⟨by rfl, rfl⟩) ?_ ?_
      rotate_left
      · simp only [Act.put, List.setIfInBounds_toArray, List.set_cons_zero, List.set_cons_succ, i64_w, i32_w]
        rfl
      refine pure_ (i := 13) (N := some 19) (v := undef) (a' := ?_) #[true, true, true, true, true, true, true, true, true, true, true, true, true, true, false, false, false, false, false, false, false, false] rfl rfl (by kernel_rfl) (fun _ _ _ h => h) (Or.inr ⟨by rfl, rfl⟩) ?_ ?_
      rotate_left
      · simp only [Act.put, List.setIfInBounds_toArray, List.set_cons_zero, List.set_cons_succ, i64_w, i32_w]
        rfl
      refine pure_ (i := 14) (N := some 20) (v := undef) (a' := ?_) #[true, true, true, true, true, true, true, true, true, true, true, true, true, true, true, false, false, false, false, false, false, false] rfl rfl (by kernel_rfl) (fun _ _ _ h => h) (Or.inr ⟨by rfl, rfl⟩) ?_ ?_
      rotate_left
      · simp only [Act.put, List.setIfInBounds_toArray, List.set_cons_zero, List.set_cons_succ, i64_w, i32_w]
        rfl
      refine pure_ (i := 15) (N := some 21) (v := undef) (a' := ?_) #[true, true, true, true, true, true, true, true, true, true, true, true, true, true, true, true, false, false, false, false, false, false] rfl rfl (by kernel_rfl) (fun _ _ _ h => h) (Or.inr ⟨by rfl, rfl⟩) ?_ ?_
      rotate_left
      · simp only [Act.put, List.setIfInBounds_toArray, List.set_cons_zero, List.set_cons_succ, i64_w, i32_w]
        rfl
      refine pure_ (i := 16) (N := some 22) (v := undef) (a' := ?_) #[true, true, true, true, true, true, true, true, true, true, true, true, true, true, true, true, true, false, false, false, false, false] rfl rfl (by kernel_rfl) (fun _ _ _ h => h) (Or.inr ⟨by rfl, rfl⟩) ?_ ?_
      rotate_left
      · simp only [Act.put, List.setIfInBounds_toArray, List.set_cons_zero, List.set_cons_succ, i64_w, i32_w]
        rfl
      refine pure_ (i := 17) (N := some 23) (v := undef) (a' := ?_) #[true, true, true, true, true, true, true, true, true, true, true, true, true, true, true, true, true, true, false, false, false, false] rfl rfl (by kernel_rfl) (fun _ _ _ h => h) (Or.inr ⟨by rfl, rfl⟩) ?_ ?_
      rotate_left
      · simp only [Act.put, List.setIfInBounds_toArray, List.set_cons_zero, List.set_cons_succ, i64_w, i32_w]
        rfl
      refine pure_ (i := 18) (N := some 24) (v := undef) (a' := ?_) #[true, true, true, true, true, true, true, true, true, true, true, true, true, true, true, true, true, true, true, false, false, false] rfl rfl (by kernel_rfl) (fun _ _ _ h => h) (Or.inr ⟨by rfl, rfl⟩) ?_ ?_
      rotate_left
      · simp only [Act.put, List.setIfInBounds_toArray, List.set_cons_zero, List.set_cons_succ, i64_w, i32_w]
        rfl
      refine pure_ (i := 19) (N := some 25) (v := undef) (a' := ?_) #[true, true, true, true, true, true, true, true, true, true, true, true, true, true, true, true, true, true, true, true, false, false] rfl rfl (by kernel_rfl) (fun _ _ _ h => h) (Or.inr ⟨by rfl, rfl⟩) ?_ ?_
      rotate_left
      · simp only [Act.put, List.setIfInBounds_toArray, List.set_cons_zero, List.set_cons_succ, i64_w, i32_w]
        rfl
      refine pure_ (i := 20) (N := some 26) (v := ?_) (a' := ?_) #[true, true, true, true, true, true, true, true, true, true, true, true, true, true, true, true, true, true, true, true, true, false] rfl rfl (by kernel_rfl) (fun _ _ _ h => h) (Or.inl ⟨by rfl, ?_⟩) ?_ ?_
      rotate_left
      · intro w'
        go_simp
        with_reducible rfl
      rotate_left
      · simp only [Act.put, List.setIfInBounds_toArray, List.set_cons_zero, List.set_cons_succ, i64_w, i32_w]
        rfl
      refine pure_ (i := 21) (N := some 5) (v := ?_) (a' := ?_) #[true, true, true, true, true, true, true, true, true, true, true, true, true, true, true, true, true, true, true, true, true, true] rfl rfl (by kernel_rfl) (fun _ _ _ h => h) (Or.inl ⟨by rfl, ?_⟩) ?_ ?_
      rotate_left
      · intro w'
        go_simp
        with_reducible rfl
      rotate_left
      · simp only [Act.put, List.setIfInBounds_toArray, List.set_cons_zero, List.set_cons_succ, i64_w, i32_w]
        rfl
      refine done_ (by kernel_rfl) ?_
      go_wp2_with fail
      refine start_ (n := 19) (S := fun w' => w'.cell? ⟨q, 0, none⟩ = some (.pointer (some ⟨p, 0, none⟩)) ∧ w'.cell? ⟨w.heap.size, 0, none⟩ = some (.int .i64 x)) (ds := []) #[false, false, false, false, false, false, false, false, false, false, false, false, false, false, false, false, false, false, false] (by kernel_rfl) rfl rfl ⟨d0, d3⟩ (fun hHeld => ?_)
      refine pure_ (i := 0) (N := some 27) (v := ?_) (a' := ?_) #[true, false, false, false, false, false, false, false, false, false, false, false, false, false, false, false, false, false, false] rfl rfl (by kernel_rfl) (fun _ _ _ h => h) (Or.inl ⟨by rfl, ?_⟩) ?_ ?_
      rotate_left
      · intro w'
        go_simp
        with_reducible rfl
      rotate_left
      · simp only [Act.put, List.setIfInBounds_toArray, List.set_cons_zero, List.set_cons_succ, i64_w, i32_w]
        rfl
      refine take_ (i := 1) (N := some 28) (v := ?_) (a' := ?_) #[true, true, false, false, false, false, false, false, false, false, false, false, false, false, false, false, false, false, false] rfl rfl (by kernel_rfl) (fun _ _ _ h => h) (Or.inl ⟨by rfl, ?_⟩) hHeld ?_ ?_
      rotate_left
      · rintro w' ⟨s0, s1⟩
        go_simp
        with_reducible rfl
      rotate_left
      · simp only [Act.put, List.setIfInBounds_toArray, List.set_cons_zero, List.set_cons_succ, i64_w, i32_w]
        rfl
      refine pure_ (i := 2) (N := some 29) (v := ?_) (a' := ?_) #[true, true, true, false, false, false, false, false, false, false, false, false, false, false, false, false, false, false, false] rfl rfl (by kernel_rfl) (fun _ _ _ h => h) (Or.inl ⟨by rfl, ?_⟩) ?_ ?_
      rotate_left
      · intro w'
        go_simp
        with_reducible rfl
      rotate_left
      · simp only [Act.put, List.setIfInBounds_toArray, List.set_cons_zero, List.set_cons_succ, i64_w, i32_w]
        rfl
      refine pure_ (i := 3) (N := some 30) (v := ?_) (a' := ?_) #[true, true, true, true, false, false, false, false, false, false, false, false, false, false, false, false, false, false, false] rfl rfl (by kernel_rfl) (fun _ _ _ h => h) (Or.inl ⟨by rfl, ?_⟩) ?_ ?_
      rotate_left
      · intro w'
        go_simp
        with_reducible rfl
      rotate_left
      · simp only [Act.put, List.setIfInBounds_toArray, List.set_cons_zero, List.set_cons_succ, i64_w, i32_w]
        rfl
      refine pure_ (i := 4) (N := some 31) (v := undef) (a' := ?_) #[true, true, true, true, true, false, false, false, false, false, false, false, false, false, false, false, false, false, false] rfl rfl (by kernel_rfl) (fun _ _ _ h => h) (Or.inr ⟨by rfl, rfl⟩) ?_ ?_
      rotate_left
      · simp only [Act.put, List.setIfInBounds_toArray, List.set_cons_zero, List.set_cons_succ, i64_w, i32_w]
        rfl
      refine pure_ (i := 5) (N := some 32) (v := undef) (a' := ?_) #[true, true, true, true, true, true, false, false, false, false, false, false, false, false, false, false, false, false, false] rfl rfl (by kernel_rfl) (fun _ _ _ h => h) (Or.inr ⟨by rfl, rfl⟩) ?_ ?_
      rotate_left
      · simp only [Act.put, List.setIfInBounds_toArray, List.set_cons_zero, List.set_cons_succ, i64_w, i32_w]
        rfl
      refine pure_ (i := 6) (N := some 33) (v := undef) (a' := ?_) #[true, true, true, true, true, true, true, false, false, false, false, false, false, false, false, false, false, false, false] rfl rfl (by kernel_rfl) (fun _ _ _ h => h) (Or.inr ⟨by rfl, rfl⟩) ?_ ?_
      rotate_left
      · simp only [Act.put, List.setIfInBounds_toArray, List.set_cons_zero, List.set_cons_succ, i64_w, i32_w]
        rfl
      refine pure_ (i := 7) (N := some 34) (v := undef) (a' := ?_) #[true, true, true, true, true, true, true, true, false, false, false, false, false, false, false, false, false, false, false] rfl rfl (by kernel_rfl) (fun _ _ _ h => h) (Or.inr ⟨by rfl, rfl⟩) ?_ ?_
      rotate_left
      · simp only [Act.put, List.setIfInBounds_toArray, List.set_cons_zero, List.set_cons_succ, i64_w, i32_w]
        rfl
      refine pure_ (i := 8) (N := some 35) (v := undef) (a' := ?_) #[true, true, true, true, true, true, true, true, true, false, false, false, false, false, false, false, false, false, false] rfl rfl (by kernel_rfl) (fun _ _ _ h => h) (Or.inr ⟨by rfl, rfl⟩) ?_ ?_
      rotate_left
      · simp only [Act.put, List.setIfInBounds_toArray, List.set_cons_zero, List.set_cons_succ, i64_w, i32_w]
        rfl
      refine pure_ (i := 9) (N := some 36) (v := undef) (a' := ?_) #[true, true, true, true, true, true, true, true, true, true, false, false, false, false, false, false, false, false, false] rfl rfl (by kernel_rfl) (fun _ _ _ h => h) (Or.inr ⟨by rfl, rfl⟩) ?_ ?_
      rotate_left
      · simp only [Act.put, List.setIfInBounds_toArray, List.set_cons_zero, List.set_cons_succ, i64_w, i32_w]
        rfl
      refine pure_ (i := 10) (N := some 37) (v := undef) (a' := ?_) #[true, true, true, true, true, true, true, true, true, true, true, false, false, false, false, false, false, false, false] rfl rfl (by kernel_rfl) (fun _ _ _ h => h) (Or.inr ⟨by rfl, rfl⟩) ?_ ?_
      rotate_left
      · simp only [Act.put, List.setIfInBounds_toArray, List.set_cons_zero, List.set_cons_succ, i64_w, i32_w]
        rfl
      refine pure_ (i := 11) (N := some 38) (v := undef) (a' := ?_) #[true, true, true, true, true, true, true, true, true, true, true, true, false, false, false, false, false, false, false] rfl rfl (by kernel_rfl) (fun _ _ _ h => h) (Or.inr ⟨by rfl, rfl⟩) ?_ ?_
      rotate_left
      · simp only [Act.put, List.setIfInBounds_toArray, List.set_cons_zero, List.set_cons_succ, i64_w, i32_w]
        rfl
      refine pure_ (i := 12) (N := some 39) (v := undef) (a' := ?_) #[true, true, true, true, true, true, true, true, true, true, true, true, true, false, false, false, false, false, false] rfl rfl (by kernel_rfl) (fun _ _ _ h => h) (Or.inr ⟨by rfl, rfl⟩) ?_ ?_
      rotate_left
      · simp only [Act.put, List.setIfInBounds_toArray, List.set_cons_zero, List.set_cons_succ, i64_w, i32_w]
        rfl
      refine pure_ (i := 13) (N := some 40) (v := ?_) (a' := ?_) #[true, true, true, true, true, true, true, true, true, true, true, true, true, true, false, false, false, false, false] rfl rfl (by kernel_rfl) (fun _ _ _ h => h) (Or.inl ⟨by rfl, ?_⟩) ?_ ?_
      rotate_left
      · intro w'
        go_simp
        with_reducible rfl
      rotate_left
      · simp only [Act.put, List.setIfInBounds_toArray, List.set_cons_zero, List.set_cons_succ, i64_w, i32_w]
        rfl
      refine pure_ (i := 14) (N := some 41) (v := ?_) (a' := ?_) #[true, true, true, true, true, true, true, true, true, true, true, true, true, true, true, false, false, false, false] rfl rfl (by kernel_rfl) (fun _ _ _ h => h) (Or.inl ⟨by rfl, ?_⟩) ?_ ?_
      rotate_left
      · intro w'
        go_simp
        with_reducible rfl
      rotate_left
      · simp only [Act.put, List.setIfInBounds_toArray, List.set_cons_zero, List.set_cons_succ, i64_w, i32_w]
        rfl
      refine pure_ (i := 15) (N := some 42) (v := undef) (a' := ?_) #[true, true, true, true, true, true, true, true, true, true, true, true, true, true, true, true, false, false, false] rfl rfl (by kernel_rfl) (fun _ _ _ h => h) (Or.inr ⟨by rfl, rfl⟩) ?_ ?_
      rotate_left
      · simp only [Act.put, List.setIfInBounds_toArray, List.set_cons_zero, List.set_cons_succ, i64_w, i32_w]
        rfl
      refine pure_ (i := 16) (N := some 43) (v := undef) (a' := ?_) #[true, true, true, true, true, true, true, true, true, true, true, true, true, true, true, true, true, false, false] rfl rfl (by kernel_rfl) (fun _ _ _ h => h) (Or.inr ⟨by rfl, rfl⟩) ?_ ?_
      rotate_left
      · simp only [Act.put, List.setIfInBounds_toArray, List.set_cons_zero, List.set_cons_succ, i64_w, i32_w]
        rfl
      refine pure_ (i := 17) (N := some 44) (v := ?_) (a' := ?_) #[true, true, true, true, true, true, true, true, true, true, true, true, true, true, true, true, true, true, false] rfl rfl (by kernel_rfl) (fun _ _ _ h => h) (Or.inl ⟨by rfl, ?_⟩) ?_ ?_
      rotate_left
      · intro w'
        go_simp
        with_reducible rfl
      rotate_left
      · simp only [Act.put, List.setIfInBounds_toArray, List.set_cons_zero, List.set_cons_succ, i64_w, i32_w]
        rfl
      refine pure_ (i := 18) (N := some 4) (v := ?_) (a' := ?_) #[true, true, true, true, true, true, true, true, true, true, true, true, true, true, true, true, true, true, true] rfl rfl (by kernel_rfl) (fun _ _ _ h => h) (Or.inl ⟨by rfl, ?_⟩) ?_ ?_
      rotate_left
      · intro w'
        go_simp
        with_reducible rfl
      rotate_left
      · simp only [Act.put, List.setIfInBounds_toArray, List.set_cons_zero, List.set_cons_succ, i64_w, i32_w]
        rfl
      refine done_ (by kernel_rfl) ?_
      go_wp2_with fail
      go_ret
      exact ⟨by rw [HR.out]; rfl, HBA.out.drew.drew⟩
    · rw [decide_eq_true h3] at HR
      have z3 : decide ((0 : Int) ≤ x) = true := decide_eq_true h3
      rw [decide_eq_false h4] at HR
      have z4 : decide (x < (n : Int)) = false := decide_eq_false h4
      clear h3 h4
      refine start_ (n := 22) (S := fun w' => w'.cell? ⟨q, 1, none⟩ = some (.int .i64 a) ∧ w'.cell? ⟨q, 2, none⟩ = some (.int .i64 k) ∧ w'.cell? ⟨w.heap.size, 0, none⟩ = some (.int .i64 x)) (ds := []) #[false, false, false, false, false, false, false, false, false, false, false, false, false, false, false, false, false, false, false, false, false, false] (by kernel_rfl) rfl rfl ⟨d1, d2, d3⟩ (fun hHeld => ?_)
      refine pure_ (i := 0) (N := some 6) (v := ?_) (a' := ?_) #[true, false, false, false, false, false, false, false, false, false, false, false, false, false, false, false, false, false, false, false, false, false] rfl rfl (by kernel_rfl) (fun _ _ _ h => h) (Or.inl ⟨by rfl, ?_⟩) ?_ ?_
      rotate_left
      · intro w'
        go_simp
        with_reducible rfl
      rotate_left
      · simp only [Act.put, List.setIfInBounds_toArray, List.set_cons_zero, List.set_cons_succ, i64_w, i32_w]
        rfl
      refine pure_ (i := 2) (N := some 8) (v := ?_) (a' := ?_) #[true, false, true, false, false, false, false, false, false, false, false, false, false, false, false, false, false, false, false, false, false, false] rfl rfl (by kernel_rfl) (fun _ _ _ h => h) (Or.inl ⟨by rfl, ?_⟩) ?_ ?_
      rotate_left
      · intro w'
        go_simp
        with_reducible rfl
      rotate_left
      · simp only [Act.put, List.setIfInBounds_toArray, List.set_cons_zero, List.set_cons_succ, i64_w, i32_w]
        rfl
      refine pure_ (i := 3) (N := some 9) (v := ?_) (a' := ?_) #[true, false, true, true, false, false, false, false, false, false, false, false, false, false, false, false, false, false, false, false, false, false] rfl rfl (by kernel_rfl) (fun _ _ _ h => h) (Or.inl ⟨by rfl, ?_⟩) ?_ ?_
      rotate_left
      · intro w'
        go_simp
        with_reducible rfl
      rotate_left
      · simp only [Act.put, List.setIfInBounds_toArray, List.set_cons_zero, List.set_cons_succ, i64_w, i32_w]
        rfl
      refine pure_ (i := 4) (N := some 10) (v := ?_) (a' := ?_) #[true, false, true, true, true, false, false, false, false, false, false, false, false, false, false, false, false, false, false, false, false, false] rfl rfl (by kernel_rfl) (fun _ _ _ h => h) (Or.inl ⟨by rfl, ?_⟩) ?_ ?_
      rotate_left
      · intro w'
        go_simp
        with_reducible rfl
      rotate_left
      · simp only [Act.put, List.setIfInBounds_toArray, List.set_cons_zero, List.set_cons_succ, i64_w, i32_w]
        rfl
      refine take_ (i := 1) (N := some 7) (v := ?_) (a' := ?_) #[true, true, true, true, true, false, false, false, false, false, false, false, false, false, false, false, false, false, false, false, false, false] rfl rfl (by kernel_rfl) (fun _ _ _ h => h) (Or.inl ⟨by rfl, ?_⟩) hHeld ?_ ?_
      rotate_left
      · rintro w' ⟨s0, s1, s2⟩
        go_simp
        with_reducible rfl
      rotate_left
      · simp only [Act.put, List.setIfInBounds_toArray, List.set_cons_zero, List.set_cons_succ, i64_w, i32_w]
        rfl
      refine take_ (i := 5) (N := some 11) (v := ?_) (a' := ?_) #[true, true, true, true, true, true, false, false, false, false, false, false, false, false, false, false, false, false, false, false, false, false] rfl rfl (by kernel_rfl) (fun _ _ _ h => h) (Or.inl ⟨by rfl, ?_⟩) hHeld ?_ ?_
      rotate_left
      · rintro w' ⟨s0, s1, s2⟩
        go_simp
        with_reducible rfl
      rotate_left
      · simp only [Act.put, List.setIfInBounds_toArray, List.set_cons_zero, List.set_cons_succ, i64_w, i32_w]
        rfl
      refine pure_ (i := 6) (N := some 12) (v := ?_) (a' := ?_) #[true, true, true, true, true, true, true, false, false, false, false, false, false, false, false, false, false, false, false, false, false, false] rfl rfl (by kernel_rfl) (fun _ _ _ h => h) (Or.inl ⟨by rfl, ?_⟩) ?_ ?_
      rotate_left
      · intro w'
        go_simp
        with_reducible rfl
      rotate_left
      · simp only [Act.put, List.setIfInBounds_toArray, List.set_cons_zero, List.set_cons_succ, i64_w, i32_w]
        rfl
      refine pure_ (i := 7) (N := some 13) (v := ?_) (a' := ?_) #[true, true, true, true, true, true, true, true, false, false, false, false, false, false, false, false, false, false, false, false, false, false] rfl rfl (by kernel_rfl) (fun _ _ _ h => h) (Or.inl ⟨by rfl, ?_⟩) ?_ ?_
      rotate_left
      · intro w'
        go_simp
        with_reducible rfl
      rotate_left
      · simp only [Act.put, List.setIfInBounds_toArray, List.set_cons_zero, List.set_cons_succ, i64_w, i32_w]
        rfl
      refine pure_ (i := 8) (N := some 14) (v := undef) (a' := ?_) #[true, true, true, true, true, true, true, true, true, false, false, false, false, false, false, false, false, false, false, false, false, false] rfl rfl (by kernel_rfl) (fun _ _ _ h => h) (Or.inr ⟨by rfl, rfl⟩) ?_ ?_
      rotate_left
      · simp only [Act.put, List.setIfInBounds_toArray, List.set_cons_zero, List.set_cons_succ, i64_w, i32_w]
        rfl
      refine pure_ (i := 9) (N := some 15) (v := undef) (a' := ?_) #[true, true, true, true, true, true, true, true, true, true, false, false, false, false, false, false, false, false, false, false, false, false] rfl rfl (by kernel_rfl) (fun _ _ _ h => h) (Or.inr ⟨by rfl, rfl⟩) ?_ ?_
      rotate_left
      · simp only [Act.put, List.setIfInBounds_toArray, List.set_cons_zero, List.set_cons_succ, i64_w, i32_w]
        rfl
      refine pure_ (i := 10) (N := some 16) (v := undef) (a' := ?_) #[true, true, true, true, true, true, true, true, true, true, true, false, false, false, false, false, false, false, false, false, false, false] rfl rfl (by kernel_rfl) (fun _ _ _ h => h) (Or.inr ⟨by rfl, rfl⟩) ?_ ?_
      rotate_left
      · simp only [Act.put, List.setIfInBounds_toArray, List.set_cons_zero, List.set_cons_succ, i64_w, i32_w]
        rfl
      refine pure_ (i := 11) (N := some 17) (v := undef) (a' := ?_) #[true, true, true, true, true, true, true, true, true, true, true, true, false, false, false, false, false, false, false, false, false, false] rfl rfl (by kernel_rfl) (fun _ _ _ h => h) (Or.inr ⟨by rfl, rfl⟩) ?_ ?_
      rotate_left
      · simp only [Act.put, List.setIfInBounds_toArray, List.set_cons_zero, List.set_cons_succ, i64_w, i32_w]
        rfl
      refine pure_ (i := 12) (N := some 18) (v := undef) (a' := ?_) #[true, true, true, true, true, true, true, true, true, true, true, true, true, false, false, false, false, false, false, false, false, false] rfl rfl (by kernel_rfl) (fun _ _ _ h => h) (Or.inr ⟨by rfl, rfl⟩) ?_ ?_
      rotate_left
      · simp only [Act.put, List.setIfInBounds_toArray, List.set_cons_zero, List.set_cons_succ, i64_w, i32_w]
        rfl
      refine pure_ (i := 13) (N := some 19) (v := undef) (a' := ?_) #[true, true, true, true, true, true, true, true, true, true, true, true, true, true, false, false, false, false, false, false, false, false] rfl rfl (by kernel_rfl) (fun _ _ _ h => h) (Or.inr ⟨by rfl, rfl⟩) ?_ ?_
      rotate_left
      · simp only [Act.put, List.setIfInBounds_toArray, List.set_cons_zero, List.set_cons_succ, i64_w, i32_w]
        rfl
      refine pure_ (i := 14) (N := some 20) (v := undef) (a' := ?_) #[true, true, true, true, true, true, true, true, true, true, true, true, true, true, true, false, false, false, false, false, false, false] rfl rfl (by kernel_rfl) (fun _ _ _ h => h) (Or.inr ⟨by rfl, rfl⟩) ?_ ?_
      rotate_left
      · simp only [Act.put, List.setIfInBounds_toArray, List.set_cons_zero, List.set_cons_succ, i64_w, i32_w]
        rfl
      refine pure_ (i := 15) (N := some 21) (v := undef) (a' := ?_) #[true, true, true, true, true, true, true, true, true, true, true, true, true, true, true, true, false, false, false, false, false, false] rfl rfl (by kernel_rfl) (fun _ _ _ h => h) (Or.inr ⟨by rfl, rfl⟩) ?_ ?_
      rotate_left
      · simp only [Act.put, List.setIfInBounds_toArray, List.set_cons_zero, List.set_cons_succ, i64_w, i32_w]
        rfl
      refine pure_ (i := 16) (N := some 22) (v := undef) (a' := ?_) #[true, true, true, true, true, true, true, true, true, true, true, true, true, true, true, true, true, false, false, false, false, false] rfl rfl (by kernel_rfl) (fun _ _ _ h => h) (Or.inr ⟨by rfl, rfl⟩) ?_ ?_
      rotate_left
      · simp only [Act.put, List.setIfInBounds_toArray, List.set_cons_zero, List.set_cons_succ, i64_w, i32_w]
        rfl
      refine pure_ (i := 17) (N := some 23) (v := undef) (a' := ?_) #[true, true, true, true, true, true, true, true, true, true, true, true, true, true, true, true, true, true, false, false, false, false] rfl rfl (by kernel_rfl) (fun _ _ _ h => h) (Or.inr ⟨by rfl, rfl⟩) ?_ ?_
      rotate_left
      · simp only [Act.put, List.setIfInBounds_toArray, List.set_cons_zero, List.set_cons_succ, i64_w, i32_w]
        rfl
      refine pure_ (i := 18) (N := some 24) (v := undef) (a' := ?_) #[true, true, true, true, true, true, true, true, true, true, true, true, true, true, true, true, true, true, true, false, false, false] rfl rfl (by kernel_rfl) (fun _ _ _ h => h) (Or.inr ⟨by rfl, rfl⟩) ?_ ?_
      rotate_left
      · simp only [Act.put, List.setIfInBounds_toArray, List.set_cons_zero, List.set_cons_succ, i64_w, i32_w]
        rfl
      refine pure_ (i := 19) (N := some 25) (v := undef) (a' := ?_) #[true, true, true, true, true, true, true, true, true, true, true, true, true, true, true, true, true, true, true, true, false, false] rfl rfl (by kernel_rfl) (fun _ _ _ h => h) (Or.inr ⟨by rfl, rfl⟩) ?_ ?_
      rotate_left
      · simp only [Act.put, List.setIfInBounds_toArray, List.set_cons_zero, List.set_cons_succ, i64_w, i32_w]
        rfl
      refine pure_ (i := 20) (N := some 26) (v := ?_) (a' := ?_) #[true, true, true, true, true, true, true, true, true, true, true, true, true, true, true, true, true, true, true, true, true, false] rfl rfl (by kernel_rfl) (fun _ _ _ h => h) (Or.inl ⟨by rfl, ?_⟩) ?_ ?_
      rotate_left
      · intro w'
        go_simp
        with_reducible rfl
      rotate_left
      · simp only [Act.put, List.setIfInBounds_toArray, List.set_cons_zero, List.set_cons_succ, i64_w, i32_w]
        rfl
      refine pure_ (i := 21) (N := some 5) (v := ?_) (a' := ?_) #[true, true, true, true, true, true, true, true, true, true, true, true, true, true, true, true, true, true, true, true, true, true] rfl rfl (by kernel_rfl) (fun _ _ _ h => h) (Or.inl ⟨by rfl, ?_⟩) ?_ ?_
      rotate_left
      · intro w'
        go_simp
        with_reducible rfl
      rotate_left
      · simp only [Act.put, List.setIfInBounds_toArray, List.set_cons_zero, List.set_cons_succ, i64_w, i32_w]
        rfl
      refine done_ (by kernel_rfl) ?_
      go_wp2_with fail
      refine start_ (n := 19) (S := fun w' => w'.cell? ⟨q, 0, none⟩ = some (.pointer (some ⟨p, 0, none⟩)) ∧ w'.cell? ⟨w.heap.size, 0, none⟩ = some (.int .i64 x)) (ds := []) #[false, false, false, false, false, false, false, false, false, false, false, false, false, false, false, false, false, false, false] (by kernel_rfl) rfl rfl ⟨d0, d3⟩ (fun hHeld => ?_)
      refine pure_ (i := 0) (N := some 27) (v := ?_) (a' := ?_) #[true, false, false, false, false, false, false, false, false, false, false, false, false, false, false, false, false, false, false] rfl rfl (by kernel_rfl) (fun _ _ _ h => h) (Or.inl ⟨by rfl, ?_⟩) ?_ ?_
      rotate_left
      · intro w'
        go_simp
        with_reducible rfl
      rotate_left
      · simp only [Act.put, List.setIfInBounds_toArray, List.set_cons_zero, List.set_cons_succ, i64_w, i32_w]
        rfl
      refine take_ (i := 1) (N := some 28) (v := ?_) (a' := ?_) #[true, true, false, false, false, false, false, false, false, false, false, false, false, false, false, false, false, false, false] rfl rfl (by kernel_rfl) (fun _ _ _ h => h) (Or.inl ⟨by rfl, ?_⟩) hHeld ?_ ?_
      rotate_left
      · rintro w' ⟨s0, s1⟩
        go_simp
        with_reducible rfl
      rotate_left
      · simp only [Act.put, List.setIfInBounds_toArray, List.set_cons_zero, List.set_cons_succ, i64_w, i32_w]
        rfl
      refine pure_ (i := 2) (N := some 29) (v := ?_) (a' := ?_) #[true, true, true, false, false, false, false, false, false, false, false, false, false, false, false, false, false, false, false] rfl rfl (by kernel_rfl) (fun _ _ _ h => h) (Or.inl ⟨by rfl, ?_⟩) ?_ ?_
      rotate_left
      · intro w'
        go_simp
        with_reducible rfl
      rotate_left
      · simp only [Act.put, List.setIfInBounds_toArray, List.set_cons_zero, List.set_cons_succ, i64_w, i32_w]
        rfl
      refine pure_ (i := 3) (N := some 30) (v := ?_) (a' := ?_) #[true, true, true, true, false, false, false, false, false, false, false, false, false, false, false, false, false, false, false] rfl rfl (by kernel_rfl) (fun _ _ _ h => h) (Or.inl ⟨by rfl, ?_⟩) ?_ ?_
      rotate_left
      · intro w'
        go_simp
        with_reducible rfl
      rotate_left
      · simp only [Act.put, List.setIfInBounds_toArray, List.set_cons_zero, List.set_cons_succ, i64_w, i32_w]
        rfl
      refine pure_ (i := 4) (N := some 31) (v := ?_) (a' := ?_) #[true, true, true, true, true, false, false, false, false, false, false, false, false, false, false, false, false, false, false] rfl rfl (by kernel_rfl) (fun _ _ _ h => h) (Or.inl ⟨by rfl, ?_⟩) ?_ ?_
      rotate_left
      · intro w'
        go_simp
        with_reducible rfl
      rotate_left
      · simp only [Act.put, List.setIfInBounds_toArray, List.set_cons_zero, List.set_cons_succ, i64_w, i32_w]
        rfl
      refine pure_ (i := 6) (N := some 33) (v := ?_) (a' := ?_) #[true, true, true, true, true, false, true, false, false, false, false, false, false, false, false, false, false, false, false] rfl rfl (by kernel_rfl) (fun _ _ _ h => h) (Or.inl ⟨by rfl, ?_⟩) ?_ ?_
      rotate_left
      · intro w'
        go_simp
        with_reducible rfl
      rotate_left
      · simp only [Act.put, List.setIfInBounds_toArray, List.set_cons_zero, List.set_cons_succ, i64_w, i32_w]
        rfl
      refine pure_ (i := 7) (N := some 34) (v := ?_) (a' := ?_) #[true, true, true, true, true, false, true, true, false, false, false, false, false, false, false, false, false, false, false] rfl rfl (by kernel_rfl) (fun _ _ _ h => h) (Or.inl ⟨by rfl, ?_⟩) ?_ ?_
      rotate_left
      · intro w'
        go_simp
        with_reducible rfl
      rotate_left
      · simp only [Act.put, List.setIfInBounds_toArray, List.set_cons_zero, List.set_cons_succ, i64_w, i32_w]
        rfl
      refine pure_ (i := 8) (N := some 35) (v := ?_) (a' := ?_) #[true, true, true, true, true, false, true, true, true, false, false, false, false, false, false, false, false, false, false] rfl rfl (by kernel_rfl) (fun _ _ _ h => h) (Or.inl ⟨by rfl, ?_⟩) ?_ ?_
      rotate_left
      · intro w'
        go_simp
        with_reducible rfl
      rotate_left
      · simp only [Act.put, List.setIfInBounds_toArray, List.set_cons_zero, List.set_cons_succ, i64_w, i32_w]
        rfl
      refine take_ (i := 5) (N := some 32) (v := ?_) (a' := ?_) #[true, true, true, true, true, true, true, true, true, false, false, false, false, false, false, false, false, false, false] rfl rfl (by kernel_rfl) (fun _ _ _ h => h) (Or.inl ⟨by rfl, ?_⟩) hHeld ?_ ?_
      rotate_left
      · rintro w' ⟨s0, s1⟩
        go_simp
        with_reducible rfl
      rotate_left
      · simp only [Act.put, List.setIfInBounds_toArray, List.set_cons_zero, List.set_cons_succ, i64_w, i32_w]
        rfl
      refine take_ (i := 9) (N := some 36) (v := ?_) (a' := ?_) #[true, true, true, true, true, true, true, true, true, true, false, false, false, false, false, false, false, false, false] rfl rfl (by kernel_rfl) (fun _ _ _ h => h) (Or.inl ⟨by rfl, ?_⟩) hHeld ?_ ?_
      rotate_left
      · rintro w' ⟨s0, s1⟩
        go_simp
        with_reducible rfl
      rotate_left
      · simp only [Act.put, List.setIfInBounds_toArray, List.set_cons_zero, List.set_cons_succ, i64_w, i32_w]
        rfl
      refine one_ (i := 10) (N := some 37) #[true, true, true, true, true, true, true, true, true, true, true, false, false, false, false, false, false, false, false] rfl rfl (by kernel_rfl) (by decide) (fun K hK => ?_)
      refine goes_ Tryz.func55 (by kernel_rfl) rfl #[.pointer (some ⟨p, 0, none⟩)] (by rfl) rfl rfl (by simp only [List.map_toArray, List.map_cons, List.map_nil]; rfl) ?_
      with_reducible refine (HL.out _ HBA.out.drew.drew).mono ?_
      rintro e w3 ⟨rfl, rfl⟩
      refine ⟨_, rfl, ?_⟩
      refine hK.out _ _ ⟨hHeld.1, hHeld.2⟩ (fun hHeld => ?_)
      clear hK K
      refine norm_ (a' := ?_) ?_ ?_
      rotate_left
      · show Act.put _ (some 37) _ = _
        simp only [Act.put, List.setIfInBounds_toArray, List.set_cons_zero, List.set_cons_succ, i64_w, i32_w]
        rfl
      refine pure_ (i := 11) (N := some 38) (v := ?_) (a' := ?_) #[true, true, true, true, true, true, true, true, true, true, true, true, false, false, false, false, false, false, false] rfl rfl (by kernel_rfl) (fun _ _ _ h => h) (Or.inl ⟨by rfl, ?_⟩) ?_ ?_
      rotate_left
      · intro w'
        go_simp
        with_reducible rfl
      rotate_left
      · simp only [Act.put, List.setIfInBounds_toArray, List.set_cons_zero, List.set_cons_succ, i64_w, i32_w]
        rfl
      refine pure_ (i := 12) (N := some 39) (v := ?_) (a' := ?_) #[true, true, true, true, true, true, true, true, true, true, true, true, true, false, false, false, false, false, false] rfl rfl (by kernel_rfl) (fun _ _ _ h => h) (Or.inl ⟨by rfl, ?_⟩) ?_ ?_
      rotate_left
      · intro w'
        go_simp
        with_reducible rfl
      rotate_left
      · simp only [Act.put, List.setIfInBounds_toArray, List.set_cons_zero, List.set_cons_succ, i64_w, i32_w]
        rfl
      refine pure_ (i := 13) (N := some 40) (v := ?_) (a' := ?_) #[true, true, true, true, true, true, true, true, true, true, true, true, true, true, false, false, false, false, false] rfl rfl (by kernel_rfl) (fun _ _ _ h => h) (Or.inl ⟨by rfl, ?_⟩) ?_ ?_
      rotate_left
      · intro w'
        go_simp
        with_reducible rfl
      rotate_left
      · simp only [Act.put, List.setIfInBounds_toArray, List.set_cons_zero, List.set_cons_succ, i64_w, i32_w]
        rfl
      refine pure_ (i := 14) (N := some 41) (v := ?_) (a' := ?_) #[true, true, true, true, true, true, true, true, true, true, true, true, true, true, true, false, false, false, false] rfl rfl (by kernel_rfl) (fun _ _ _ h => h) (Or.inl ⟨by rfl, ?_⟩) ?_ ?_
      rotate_left
      · intro w'
        go_simp
        with_reducible rfl
      rotate_left
      · simp only [Act.put, List.setIfInBounds_toArray, List.set_cons_zero, List.set_cons_succ, i64_w, i32_w]
        rfl
      refine pure_ (i := 15) (N := some 42) (v := undef) (a' := ?_) #[true, true, true, true, true, true, true, true, true, true, true, true, true, true, true, true, false, false, false] rfl rfl (by kernel_rfl) (fun _ _ _ h => h) (Or.inr ⟨by rfl, rfl⟩) ?_ ?_
      rotate_left
      · simp only [Act.put, List.setIfInBounds_toArray, List.set_cons_zero, List.set_cons_succ, i64_w, i32_w]
        rfl
      refine pure_ (i := 16) (N := some 43) (v := undef) (a' := ?_) #[true, true, true, true, true, true, true, true, true, true, true, true, true, true, true, true, true, false, false] rfl rfl (by kernel_rfl) (fun _ _ _ h => h) (Or.inr ⟨by rfl, rfl⟩) ?_ ?_
      rotate_left
      · simp only [Act.put, List.setIfInBounds_toArray, List.set_cons_zero, List.set_cons_succ, i64_w, i32_w]
        rfl
      refine pure_ (i := 17) (N := some 44) (v := ?_) (a' := ?_) #[true, true, true, true, true, true, true, true, true, true, true, true, true, true, true, true, true, true, false] rfl rfl (by kernel_rfl) (fun _ _ _ h => h) (Or.inl ⟨by rfl, ?_⟩) ?_ ?_
      rotate_left
      · intro w'
        go_simp
        with_reducible rfl
      rotate_left
      · simp only [Act.put, List.setIfInBounds_toArray, List.set_cons_zero, List.set_cons_succ, i64_w, i32_w]
        rfl
      refine pure_ (i := 18) (N := some 4) (v := ?_) (a' := ?_) #[true, true, true, true, true, true, true, true, true, true, true, true, true, true, true, true, true, true, true] rfl rfl (by kernel_rfl) (fun _ _ _ h => h) (Or.inl ⟨by rfl, ?_⟩) ?_ ?_
      rotate_left
      · intro w'
        go_simp
        with_reducible rfl
      rotate_left
      · simp only [Act.put, List.setIfInBounds_toArray, List.set_cons_zero, List.set_cons_succ, i64_w, i32_w]
        rfl
      refine done_ (by kernel_rfl) ?_
      go_wp2_with fail
      go_ret
      exact ⟨by rw [HR.out]; rfl, HBA.out.drew.drew⟩
    · rw [decide_eq_true h3] at HR
      have z3 : decide ((0 : Int) ≤ x) = true := decide_eq_true h3
      rw [decide_eq_true h4] at HR
      have z4 : decide (x < (n : Int)) = true := decide_eq_true h4
      clear h3 h4
      refine start_ (n := 22) (S := fun w' => w'.cell? ⟨q, 1, none⟩ = some (.int .i64 a) ∧ w'.cell? ⟨q, 2, none⟩ = some (.int .i64 k) ∧ w'.cell? ⟨w.heap.size, 0, none⟩ = some (.int .i64 x)) (ds := []) #[false, false, false, false, false, false, false, false, false, false, false, false, false, false, false, false, false, false, false, false, false, false] (by kernel_rfl) rfl rfl ⟨d1, d2, d3⟩ (fun hHeld => ?_)
      refine pure_ (i := 0) (N := some 6) (v := ?_) (a' := ?_) #[true, false, false, false, false, false, false, false, false, false, false, false, false, false, false, false, false, false, false, false, false, false] rfl rfl (by kernel_rfl) (fun _ _ _ h => h) (Or.inl ⟨by rfl, ?_⟩) ?_ ?_
      rotate_left
      · intro w'
        go_simp
        with_reducible rfl
      rotate_left
      · simp only [Act.put, List.setIfInBounds_toArray, List.set_cons_zero, List.set_cons_succ, i64_w, i32_w]
        rfl
      refine pure_ (i := 2) (N := some 8) (v := ?_) (a' := ?_) #[true, false, true, false, false, false, false, false, false, false, false, false, false, false, false, false, false, false, false, false, false, false] rfl rfl (by kernel_rfl) (fun _ _ _ h => h) (Or.inl ⟨by rfl, ?_⟩) ?_ ?_
      rotate_left
      · intro w'
        go_simp
        with_reducible rfl
      rotate_left
      · simp only [Act.put, List.setIfInBounds_toArray, List.set_cons_zero, List.set_cons_succ, i64_w, i32_w]
        rfl
      refine pure_ (i := 3) (N := some 9) (v := ?_) (a' := ?_) #[true, false, true, true, false, false, false, false, false, false, false, false, false, false, false, false, false, false, false, false, false, false] rfl rfl (by kernel_rfl) (fun _ _ _ h => h) (Or.inl ⟨by rfl, ?_⟩) ?_ ?_
      rotate_left
      · intro w'
        go_simp
        with_reducible rfl
      rotate_left
      · simp only [Act.put, List.setIfInBounds_toArray, List.set_cons_zero, List.set_cons_succ, i64_w, i32_w]
        rfl
      refine pure_ (i := 4) (N := some 10) (v := ?_) (a' := ?_) #[true, false, true, true, true, false, false, false, false, false, false, false, false, false, false, false, false, false, false, false, false, false] rfl rfl (by kernel_rfl) (fun _ _ _ h => h) (Or.inl ⟨by rfl, ?_⟩) ?_ ?_
      rotate_left
      · intro w'
        go_simp
        with_reducible rfl
      rotate_left
      · simp only [Act.put, List.setIfInBounds_toArray, List.set_cons_zero, List.set_cons_succ, i64_w, i32_w]
        rfl
      refine take_ (i := 1) (N := some 7) (v := ?_) (a' := ?_) #[true, true, true, true, true, false, false, false, false, false, false, false, false, false, false, false, false, false, false, false, false, false] rfl rfl (by kernel_rfl) (fun _ _ _ h => h) (Or.inl ⟨by rfl, ?_⟩) hHeld ?_ ?_
      rotate_left
      · rintro w' ⟨s0, s1, s2⟩
        go_simp
        with_reducible rfl
      rotate_left
      · simp only [Act.put, List.setIfInBounds_toArray, List.set_cons_zero, List.set_cons_succ, i64_w, i32_w]
        rfl
      refine take_ (i := 5) (N := some 11) (v := ?_) (a' := ?_) #[true, true, true, true, true, true, false, false, false, false, false, false, false, false, false, false, false, false, false, false, false, false] rfl rfl (by kernel_rfl) (fun _ _ _ h => h) (Or.inl ⟨by rfl, ?_⟩) hHeld ?_ ?_
      rotate_left
      · rintro w' ⟨s0, s1, s2⟩
        go_simp
        with_reducible rfl
      rotate_left
      · simp only [Act.put, List.setIfInBounds_toArray, List.set_cons_zero, List.set_cons_succ, i64_w, i32_w]
        rfl
      refine pure_ (i := 6) (N := some 12) (v := ?_) (a' := ?_) #[true, true, true, true, true, true, true, false, false, false, false, false, false, false, false, false, false, false, false, false, false, false] rfl rfl (by kernel_rfl) (fun _ _ _ h => h) (Or.inl ⟨by rfl, ?_⟩) ?_ ?_
      rotate_left
      · intro w'
        go_simp
        with_reducible rfl
      rotate_left
      · simp only [Act.put, List.setIfInBounds_toArray, List.set_cons_zero, List.set_cons_succ, i64_w, i32_w]
        rfl
      refine pure_ (i := 7) (N := some 13) (v := ?_) (a' := ?_) #[true, true, true, true, true, true, true, true, false, false, false, false, false, false, false, false, false, false, false, false, false, false] rfl rfl (by kernel_rfl) (fun _ _ _ h => h) (Or.inl ⟨by rfl, ?_⟩) ?_ ?_
      rotate_left
      · intro w'
        go_simp
        with_reducible rfl
      rotate_left
      · simp only [Act.put, List.setIfInBounds_toArray, List.set_cons_zero, List.set_cons_succ, i64_w, i32_w]
        rfl
      refine pure_ (i := 8) (N := some 14) (v := undef) (a' := ?_) #[true, true, true, true, true, true, true, true, true, false, false, false, false, false, false, false, false, false, false, false, false, false] rfl rfl (by kernel_rfl) (fun _ _ _ h => h) (Or.inr ⟨by rfl, rfl⟩) ?_ ?_
      rotate_left
      · simp only [Act.put, List.setIfInBounds_toArray, List.set_cons_zero, List.set_cons_succ, i64_w, i32_w]
        rfl
      refine pure_ (i := 9) (N := some 15) (v := undef) (a' := ?_) #[true, true, true, true, true, true, true, true, true, true, false, false, false, false, false, false, false, false, false, false, false, false] rfl rfl (by kernel_rfl) (fun _ _ _ h => h) (Or.inr ⟨by rfl, rfl⟩) ?_ ?_
      rotate_left
      · simp only [Act.put, List.setIfInBounds_toArray, List.set_cons_zero, List.set_cons_succ, i64_w, i32_w]
        rfl
      refine pure_ (i := 10) (N := some 16) (v := undef) (a' := ?_) #[true, true, true, true, true, true, true, true, true, true, true, false, false, false, false, false, false, false, false, false, false, false] rfl rfl (by kernel_rfl) (fun _ _ _ h => h) (Or.inr ⟨by rfl, rfl⟩) ?_ ?_
      rotate_left
      · simp only [Act.put, List.setIfInBounds_toArray, List.set_cons_zero, List.set_cons_succ, i64_w, i32_w]
        rfl
      refine pure_ (i := 11) (N := some 17) (v := undef) (a' := ?_) #[true, true, true, true, true, true, true, true, true, true, true, true, false, false, false, false, false, false, false, false, false, false] rfl rfl (by kernel_rfl) (fun _ _ _ h => h) (Or.inr ⟨by rfl, rfl⟩) ?_ ?_
      rotate_left
      · simp only [Act.put, List.setIfInBounds_toArray, List.set_cons_zero, List.set_cons_succ, i64_w, i32_w]
        rfl
      refine pure_ (i := 12) (N := some 18) (v := undef) (a' := ?_) #[true, true, true, true, true, true, true, true, true, true, true, true, true, false, false, false, false, false, false, false, false, false] rfl rfl (by kernel_rfl) (fun _ _ _ h => h) (Or.inr ⟨by rfl, rfl⟩) ?_ ?_
      rotate_left
      · simp only [Act.put, List.setIfInBounds_toArray, List.set_cons_zero, List.set_cons_succ, i64_w, i32_w]
        rfl
      refine pure_ (i := 13) (N := some 19) (v := undef) (a' := ?_) #[true, true, true, true, true, true, true, true, true, true, true, true, true, true, false, false, false, false, false, false, false, false] rfl rfl (by kernel_rfl) (fun _ _ _ h => h) (Or.inr ⟨by rfl, rfl⟩) ?_ ?_
      rotate_left
      · simp only [Act.put, List.setIfInBounds_toArray, List.set_cons_zero, List.set_cons_succ, i64_w, i32_w]
        rfl
      refine pure_ (i := 14) (N := some 20) (v := undef) (a' := ?_) #[true, true, true, true, true, true, true, true, true, true, true, true, true, true, true, false, false, false, false, false, false, false] rfl rfl (by kernel_rfl) (fun _ _ _ h => h) (Or.inr ⟨by rfl, rfl⟩) ?_ ?_
      rotate_left
      · simp only [Act.put, List.setIfInBounds_toArray, List.set_cons_zero, List.set_cons_succ, i64_w, i32_w]
        rfl
      refine pure_ (i := 15) (N := some 21) (v := undef) (a' := ?_) #[true, true, true, true, true, true, true, true, true, true, true, true, true, true, true, true, false, false, false, false, false, false] rfl rfl (by kernel_rfl) (fun _ _ _ h => h) (Or.inr ⟨by rfl, rfl⟩) ?_ ?_
      rotate_left
      · simp only [Act.put, List.setIfInBounds_toArray, List.set_cons_zero, List.set_cons_succ, i64_w, i32_w]
        rfl
      refine pure_ (i := 16) (N := some 22) (v := undef) (a' := ?_) #[true, true, true, true, true, true, true, true, true, true, true, true, true, true, true, true, true, false, false, false, false, false] rfl rfl (by kernel_rfl) (fun _ _ _ h => h) (Or.inr ⟨by rfl, rfl⟩) ?_ ?_
      rotate_left
      · simp only [Act.put, List.setIfInBounds_toArray, List.set_cons_zero, List.set_cons_succ, i64_w, i32_w]
        rfl
      refine pure_ (i := 17) (N := some 23) (v := undef) (a' := ?_) #[true, true, true, true, true, true, true, true, true, true, true, true, true, true, true, true, true, true, false, false, false, false] rfl rfl (by kernel_rfl) (fun _ _ _ h => h) (Or.inr ⟨by rfl, rfl⟩) ?_ ?_
      rotate_left
      · simp only [Act.put, List.setIfInBounds_toArray, List.set_cons_zero, List.set_cons_succ, i64_w, i32_w]
        rfl
      refine pure_ (i := 18) (N := some 24) (v := undef) (a' := ?_) #[true, true, true, true, true, true, true, true, true, true, true, true, true, true, true, true, true, true, true, false, false, false] rfl rfl (by kernel_rfl) (fun _ _ _ h => h) (Or.inr ⟨by rfl, rfl⟩) ?_ ?_
      rotate_left
      · simp only [Act.put, List.setIfInBounds_toArray, List.set_cons_zero, List.set_cons_succ, i64_w, i32_w]
        rfl
      refine pure_ (i := 19) (N := some 25) (v := undef) (a' := ?_) #[true, true, true, true, true, true, true, true, true, true, true, true, true, true, true, true, true, true, true, true, false, false] rfl rfl (by kernel_rfl) (fun _ _ _ h => h) (Or.inr ⟨by rfl, rfl⟩) ?_ ?_
      rotate_left
      · simp only [Act.put, List.setIfInBounds_toArray, List.set_cons_zero, List.set_cons_succ, i64_w, i32_w]
        rfl
      refine pure_ (i := 20) (N := some 26) (v := ?_) (a' := ?_) #[true, true, true, true, true, true, true, true, true, true, true, true, true, true, true, true, true, true, true, true, true, false] rfl rfl (by kernel_rfl) (fun _ _ _ h => h) (Or.inl ⟨by rfl, ?_⟩) ?_ ?_
      rotate_left
      · intro w'
        go_simp
        with_reducible rfl
      rotate_left
      · simp only [Act.put, List.setIfInBounds_toArray, List.set_cons_zero, List.set_cons_succ, i64_w, i32_w]
        rfl
      refine pure_ (i := 21) (N := some 5) (v := ?_) (a' := ?_) #[true, true, true, true, true, true, true, true, true, true, true, true, true, true, true, true, true, true, true, true, true, true] rfl rfl (by kernel_rfl) (fun _ _ _ h => h) (Or.inl ⟨by rfl, ?_⟩) ?_ ?_
      rotate_left
      · intro w'
        go_simp
        with_reducible rfl
      rotate_left
      · simp only [Act.put, List.setIfInBounds_toArray, List.set_cons_zero, List.set_cons_succ, i64_w, i32_w]
        rfl
      refine done_ (by kernel_rfl) ?_
      go_wp2_with fail
      refine start_ (n := 19) (S := fun w' => w'.cell? ⟨q, 0, none⟩ = some (.pointer (some ⟨p, 0, none⟩)) ∧ w'.cell? ⟨w.heap.size, 0, none⟩ = some (.int .i64 x)) (ds := []) #[false, false, false, false, false, false, false, false, false, false, false, false, false, false, false, false, false, false, false] (by kernel_rfl) rfl rfl ⟨d0, d3⟩ (fun hHeld => ?_)
      refine pure_ (i := 0) (N := some 27) (v := ?_) (a' := ?_) #[true, false, false, false, false, false, false, false, false, false, false, false, false, false, false, false, false, false, false] rfl rfl (by kernel_rfl) (fun _ _ _ h => h) (Or.inl ⟨by rfl, ?_⟩) ?_ ?_
      rotate_left
      · intro w'
        go_simp
        with_reducible rfl
      rotate_left
      · simp only [Act.put, List.setIfInBounds_toArray, List.set_cons_zero, List.set_cons_succ, i64_w, i32_w]
        rfl
      refine take_ (i := 1) (N := some 28) (v := ?_) (a' := ?_) #[true, true, false, false, false, false, false, false, false, false, false, false, false, false, false, false, false, false, false] rfl rfl (by kernel_rfl) (fun _ _ _ h => h) (Or.inl ⟨by rfl, ?_⟩) hHeld ?_ ?_
      rotate_left
      · rintro w' ⟨s0, s1⟩
        go_simp
        with_reducible rfl
      rotate_left
      · simp only [Act.put, List.setIfInBounds_toArray, List.set_cons_zero, List.set_cons_succ, i64_w, i32_w]
        rfl
      refine pure_ (i := 2) (N := some 29) (v := ?_) (a' := ?_) #[true, true, true, false, false, false, false, false, false, false, false, false, false, false, false, false, false, false, false] rfl rfl (by kernel_rfl) (fun _ _ _ h => h) (Or.inl ⟨by rfl, ?_⟩) ?_ ?_
      rotate_left
      · intro w'
        go_simp
        with_reducible rfl
      rotate_left
      · simp only [Act.put, List.setIfInBounds_toArray, List.set_cons_zero, List.set_cons_succ, i64_w, i32_w]
        rfl
      refine pure_ (i := 3) (N := some 30) (v := ?_) (a' := ?_) #[true, true, true, true, false, false, false, false, false, false, false, false, false, false, false, false, false, false, false] rfl rfl (by kernel_rfl) (fun _ _ _ h => h) (Or.inl ⟨by rfl, ?_⟩) ?_ ?_
      rotate_left
      · intro w'
        go_simp
        with_reducible rfl
      rotate_left
      · simp only [Act.put, List.setIfInBounds_toArray, List.set_cons_zero, List.set_cons_succ, i64_w, i32_w]
        rfl
      refine pure_ (i := 4) (N := some 31) (v := ?_) (a' := ?_) #[true, true, true, true, true, false, false, false, false, false, false, false, false, false, false, false, false, false, false] rfl rfl (by kernel_rfl) (fun _ _ _ h => h) (Or.inl ⟨by rfl, ?_⟩) ?_ ?_
      rotate_left
      · intro w'
        go_simp
        with_reducible rfl
      rotate_left
      · simp only [Act.put, List.setIfInBounds_toArray, List.set_cons_zero, List.set_cons_succ, i64_w, i32_w]
        rfl
      refine pure_ (i := 6) (N := some 33) (v := ?_) (a' := ?_) #[true, true, true, true, true, false, true, false, false, false, false, false, false, false, false, false, false, false, false] rfl rfl (by kernel_rfl) (fun _ _ _ h => h) (Or.inl ⟨by rfl, ?_⟩) ?_ ?_
      rotate_left
      · intro w'
        go_simp
        with_reducible rfl
      rotate_left
      · simp only [Act.put, List.setIfInBounds_toArray, List.set_cons_zero, List.set_cons_succ, i64_w, i32_w]
        rfl
      refine pure_ (i := 7) (N := some 34) (v := ?_) (a' := ?_) #[true, true, true, true, true, false, true, true, false, false, false, false, false, false, false, false, false, false, false] rfl rfl (by kernel_rfl) (fun _ _ _ h => h) (Or.inl ⟨by rfl, ?_⟩) ?_ ?_
      rotate_left
      · intro w'
        go_simp
        with_reducible rfl
      rotate_left
      · simp only [Act.put, List.setIfInBounds_toArray, List.set_cons_zero, List.set_cons_succ, i64_w, i32_w]
        rfl
      refine pure_ (i := 8) (N := some 35) (v := ?_) (a' := ?_) #[true, true, true, true, true, false, true, true, true, false, false, false, false, false, false, false, false, false, false] rfl rfl (by kernel_rfl) (fun _ _ _ h => h) (Or.inl ⟨by rfl, ?_⟩) ?_ ?_
      rotate_left
      · intro w'
        go_simp
        with_reducible rfl
      rotate_left
      · simp only [Act.put, List.setIfInBounds_toArray, List.set_cons_zero, List.set_cons_succ, i64_w, i32_w]
        rfl
      refine take_ (i := 5) (N := some 32) (v := ?_) (a' := ?_) #[true, true, true, true, true, true, true, true, true, false, false, false, false, false, false, false, false, false, false] rfl rfl (by kernel_rfl) (fun _ _ _ h => h) (Or.inl ⟨by rfl, ?_⟩) hHeld ?_ ?_
      rotate_left
      · rintro w' ⟨s0, s1⟩
        go_simp
        with_reducible rfl
      rotate_left
      · simp only [Act.put, List.setIfInBounds_toArray, List.set_cons_zero, List.set_cons_succ, i64_w, i32_w]
        rfl
      refine take_ (i := 9) (N := some 36) (v := ?_) (a' := ?_) #[true, true, true, true, true, true, true, true, true, true, false, false, false, false, false, false, false, false, false] rfl rfl (by kernel_rfl) (fun _ _ _ h => h) (Or.inl ⟨by rfl, ?_⟩) hHeld ?_ ?_
      rotate_left
      · rintro w' ⟨s0, s1⟩
        go_simp
        with_reducible rfl
      rotate_left
      · simp only [Act.put, List.setIfInBounds_toArray, List.set_cons_zero, List.set_cons_succ, i64_w, i32_w]
        rfl
      refine one_ (i := 10) (N := some 37) #[true, true, true, true, true, true, true, true, true, true, true, false, false, false, false, false, false, false, false] rfl rfl (by kernel_rfl) (by decide) (fun K hK => ?_)
      refine goes_ Tryz.func55 (by kernel_rfl) rfl #[.pointer (some ⟨p, 0, none⟩)] (by rfl) rfl rfl (by simp only [List.map_toArray, List.map_cons, List.map_nil]; rfl) ?_
      with_reducible refine (HL.out _ HBA.out.drew.drew).mono ?_
      rintro e w3 ⟨rfl, rfl⟩
      refine ⟨_, rfl, ?_⟩
      refine hK.out _ _ ⟨hHeld.1, hHeld.2⟩ (fun hHeld => ?_)
      clear hK K
      refine norm_ (a' := ?_) ?_ ?_
      rotate_left
      · show Act.put _ (some 37) _ = _
        simp only [Act.put, List.setIfInBounds_toArray, List.set_cons_zero, List.set_cons_succ, i64_w, i32_w]
        rfl
      refine pure_ (i := 11) (N := some 38) (v := ?_) (a' := ?_) #[true, true, true, true, true, true, true, true, true, true, true, true, false, false, false, false, false, false, false] rfl rfl (by kernel_rfl) (fun _ _ _ h => h) (Or.inl ⟨by rfl, ?_⟩) ?_ ?_
      rotate_left
      · intro w'
        go_simp
        with_reducible rfl
      rotate_left
      · simp only [Act.put, List.setIfInBounds_toArray, List.set_cons_zero, List.set_cons_succ, i64_w, i32_w]
        rfl
      refine pure_ (i := 12) (N := some 39) (v := ?_) (a' := ?_) #[true, true, true, true, true, true, true, true, true, true, true, true, true, false, false, false, false, false, false] rfl rfl (by kernel_rfl) (fun _ _ _ h => h) (Or.inl ⟨by rfl, ?_⟩) ?_ ?_
      rotate_left
      · intro w'
        go_simp
        with_reducible rfl
      rotate_left
      · simp only [Act.put, List.setIfInBounds_toArray, List.set_cons_zero, List.set_cons_succ, i64_w, i32_w]
        rfl
      refine pure_ (i := 13) (N := some 40) (v := ?_) (a' := ?_) #[true, true, true, true, true, true, true, true, true, true, true, true, true, true, false, false, false, false, false] rfl rfl (by kernel_rfl) (fun _ _ _ h => h) (Or.inl ⟨by rfl, ?_⟩) ?_ ?_
      rotate_left
      · intro w'
        go_simp
        with_reducible rfl
      rotate_left
      · simp only [Act.put, List.setIfInBounds_toArray, List.set_cons_zero, List.set_cons_succ, i64_w, i32_w]
        rfl
      refine pure_ (i := 14) (N := some 41) (v := ?_) (a' := ?_) #[true, true, true, true, true, true, true, true, true, true, true, true, true, true, true, false, false, false, false] rfl rfl (by kernel_rfl) (fun _ _ _ h => h) (Or.inl ⟨by rfl, ?_⟩) ?_ ?_
      rotate_left
      · intro w'
        go_simp
        with_reducible rfl
      rotate_left
      · simp only [Act.put, List.setIfInBounds_toArray, List.set_cons_zero, List.set_cons_succ, i64_w, i32_w]
        rfl
      refine pure_ (i := 15) (N := some 42) (v := ?_) (a' := ?_) #[true, true, true, true, true, true, true, true, true, true, true, true, true, true, true, true, false, false, false] rfl rfl (by kernel_rfl) (fun _ _ _ h => h) (Or.inl ⟨by rfl, ?_⟩) ?_ ?_
      rotate_left
      · intro w'
        go_simp
        with_reducible rfl
      rotate_left
      · simp only [Act.put, List.setIfInBounds_toArray, List.set_cons_zero, List.set_cons_succ, i64_w, i32_w]
        rfl
      refine pure_ (i := 16) (N := some 43) (v := ?_) (a' := ?_) #[true, true, true, true, true, true, true, true, true, true, true, true, true, true, true, true, true, false, false] rfl rfl (by kernel_rfl) (fun _ _ _ h => h) (Or.inl ⟨by rfl, ?_⟩) ?_ ?_
      rotate_left
      · intro w'
        go_simp
        with_reducible rfl
      rotate_left
      · simp only [Act.put, List.setIfInBounds_toArray, List.set_cons_zero, List.set_cons_succ, i64_w, i32_w]
        rfl
      refine pure_ (i := 17) (N := some 44) (v := ?_) (a' := ?_) #[true, true, true, true, true, true, true, true, true, true, true, true, true, true, true, true, true, true, false] rfl rfl (by kernel_rfl) (fun _ _ _ h => h) (Or.inl ⟨by rfl, ?_⟩) ?_ ?_
      rotate_left
      · intro w'
        go_simp
        with_reducible rfl
      rotate_left
      · simp only [Act.put, List.setIfInBounds_toArray, List.set_cons_zero, List.set_cons_succ, i64_w, i32_w]
        rfl
      refine pure_ (i := 18) (N := some 4) (v := ?_) (a' := ?_) #[true, true, true, true, true, true, true, true, true, true, true, true, true, true, true, true, true, true, true] rfl rfl (by kernel_rfl) (fun _ _ _ h => h) (Or.inl ⟨by rfl, ?_⟩) ?_ ?_
      rotate_left
      · intro w'
        go_simp
        with_reducible rfl
      rotate_left
      · simp only [Act.put, List.setIfInBounds_toArray, List.set_cons_zero, List.set_cons_succ, i64_w, i32_w]
        rfl
      refine done_ (by kernel_rfl) ?_
      go_wp2_with fail
      go_ret
      exact ⟨by rw [HR.out]; rfl, HBA.out.drew.drew⟩
end Go.Proofs.YtbfogcckbhkciaaGreat.Hand
namespace Go.Proofs.YtbfogcckbhkciaaGreat.Hand
set_option linter.unusedVariables false
set_option linter.unusedSimpArgs false
open Go.RowKit Go.Maps Go.Proofs.YtbfogcckbhkciaaGreatW.PrintWords
set_option linter.unusedVariables false
set_option linter.unusedSimpArgs false
inductive StepM where
  | wr (a : Nat) (l : List Int)
  | fl (a n : Nat)
  | fe
def Dev.step (d : Dev) : StepM → Dev
  | .wr a l => if a + l.length ≤ d.B.length then d.write a l else d
  | .fl a n => if a + n ≤ d.B.length then d.flush a n else d
  | .fe => d.fence
def Dev.steps (d : Dev) (ms : List StepM) : Dev := ms.foldl Dev.step d
def OkM : StepM → Prop
  | .wr _ l => Bys l
  | _ => True
theorem Dev.step_ok {d : Dev} (h : d.Ok) {m : StepM} (hm : OkM m) : (d.step m).Ok ∧ (d.step m).B.length = d.B.length := by
  cases m with
  | wr a l =>
    simp only [Dev.step]
    split
    · rename_i hi
      exact ⟨h.write hm hi, by simp only [Dev.write]; exact splice_length hi⟩
    · exact ⟨h, rfl⟩
  | fl a n =>
    simp only [Dev.step]
    split
    · exact ⟨h.flush a n, rfl⟩
    · exact ⟨h, rfl⟩
  | fe => exact ⟨h.fence, rfl⟩
theorem Dev.steps_ok {d : Dev} (h : d.Ok) {ms : List StepM} (hm : ∀ m ∈ ms, OkM m) : (d.steps ms).Ok ∧ (d.steps ms).B.length = d.B.length := by
  induction ms generalizing d with
  | nil => exact ⟨h, rfl⟩
  | cons m ms ih =>
    obtain ⟨h1, h2⟩ := Dev.step_ok h (hm m (List.mem_cons_self ..))
    obtain ⟨h3, h4⟩ := ih h1 (fun x hx => hm x (List.mem_cons_of_mem _ hx))
    exact ⟨h3, h4.trans h2⟩
theorem Dev.steps_snoc (d : Dev) (ms : List StepM) (m : StepM) : d.steps (ms ++ [m]) = (d.steps ms).step m := by simp [Dev.steps, List.foldl_append]
theorem insE_nat (len a n : Nat) : insE len a n = if a + n ≤ len then 0 else 30 := by
  unfold insE
  rw [if_neg (by omega)]
  by_cases h : a + n ≤ len
  · rw [if_neg (by omega), if_pos h]
  · rw [if_pos (by omega), if_neg h]
def wrsN (at_ : Nat) (X : List Int) (j : Nat) : List StepM := (List.range j).map fun i => .wr (at_ + 8 * i) (cut X (8 * i) 8)
theorem wrsN_succ (at_ : Nat) (X : List Int) (j : Nat) : wrsN at_ X (j + 1) = wrsN at_ X j ++ [.wr (at_ + 8 * j) (cut X (8 * j) 8)] := by
  simp [wrsN, List.range_succ]
theorem mod_splitq (n a : Int) (ha : 0 < a) : n % (a * 256) = a * (n / a % 256) + n % a := by
  have h1 := Int.mul_ediv_add_emod n a
  have h2 := Int.mul_ediv_add_emod (n / a) 256
  have h3 := Int.emod_nonneg n (Int.ne_of_gt ha)
  have h4 := Int.emod_lt_of_pos n ha
  have h5 : 0 ≤ n / a % 256 ∧ n / a % 256 ≤ 255 := by omega
  have h6 : a * (n / a % 256) ≤ a * 255 := Int.mul_le_mul_of_nonneg_left h5.2 (Int.le_of_lt ha)
  have h7 : 0 ≤ a * (n / a % 256) := Int.mul_nonneg (Int.le_of_lt ha) h5.1
  have e : n = (a * (n / a % 256) + n % a) + a * 256 * (n / a / 256) := by
    have : a * (n / a) = a * (256 * (n / a / 256) + n / a % 256) := by rw [h2]
    rw [Int.mul_add, ← Int.mul_assoc] at this
    omega
  conv => lhs; rw [e]
  rw [Int.add_mul_emod_self_left]
  exact Int.emod_eq_of_lt (by omega) (by omega)
theorem numL_leBq (n : Int) (k : Nat) : numL (leB n k) = n % 2 ^ (8 * k) := by
  induction k with
  | zero => simp [leB, numL, Int.emod_one]
  | succ k ih =>
    rw [leB, numL_append, ih, leB_length, pow256, Nat.mul_add, Int.pow_add]
    simp only [numL, Int.mul_zero, Int.add_zero]
    have h2 : (0 : Int) < 2 ^ (8 * k) := Int.pow_pos (by omega)
    have h3 : (2 : Int) ^ (8 * 1) = 256 := by decide
    rw [h3, mod_splitq n _ h2, Int.add_comm]
theorem leB_bysq (n : Int) (k : Nat) : Bys (leB n k) := by
  induction k with
  | zero => exact fun x hx => absurd hx (by simp [leB])
  | succ k ih =>
    intro x hx
    rw [leB] at hx
    rcases List.mem_append.1 hx with hx | hx
    · exact ih x hx
    · rw [List.mem_singleton.1 hx]
      omega
theorem numL_inj : ∀ {l m : List Int}, Bys l → Bys m → l.length = m.length → numL l = numL m → l = m
  | [], [], _, _, _, _ => rfl
  | x :: l, y :: m, hl, hm, he, h => by
    have hx := hl x (List.mem_cons_self ..)
    have hy := hm y (List.mem_cons_self ..)
    simp only [numL] at h
    have h1 : x = y := by omega
    subst h1
    rw [numL_inj (fun z hz => hl z (List.mem_cons_of_mem _ hz)) (fun z hz => hm z (List.mem_cons_of_mem _ hz)) (by simpa using he) (by omega)]
end Go.Proofs.YtbfogcckbhkciaaGreat.Hand
namespace Go.Proofs.YtbfogcckbhkciaaGreat.Hand
set_option linter.unusedVariables false
set_option linter.unusedSimpArgs false
open Go.RowKit Go.Maps Go.Proofs.YtbfogcckbhkciaaGreatW.PrintWords Go.Proofs.YtbfogcckbhkciaaGreatW.PrintLast
set_option linter.unusedVariables false
set_option linter.unusedSimpArgs false
theorem fits_w {n : Int} {k : Int} (h0 : 0 ≤ n) (hk : k = 2 ∧ n < 65536 ∨ k = 4 ∧ n < 4294967296 ∨ k = 8 ∧ n < 18446744073709551616) : fitsB n k = true ∧ putL n k = leB n k.toNat := by
  have h : fitsB n k = true := by
    rcases hk with ⟨rfl, h⟩ | ⟨rfl, h⟩ | ⟨rfl, h⟩ <;> (rw [fits_one _ _ h0 (by omega)]; simp [rfitsB, rightB, topN]; omega)
  exact ⟨h, by rw [putL, h]; rfl⟩
abbrev RowB (W : World) (base : Nat) (v : Value) (l : List Int) : Prop := Kd.R (Kd.int .u8) 5 W base (fun _ => True) v l
theorem row_rebase {w w0 : World} {v : Value} {xs : List Int} {b : Nat} (h : Kd.R (Kd.int .u8) 5 w0 b (New w) v xs) : RowB w0 w.heap.size v xs := by
  have ho := Kd.own_of_R h
  refine Kd.R_of_own ⟨ho.1, ?_⟩ (fun _ _ => trivial)
  rcases ho.2 with ⟨e, h0⟩ | ⟨g, cap, cur, e, hb, h2⟩
  · exact .inl ⟨e, h0⟩
  · refine .inr ⟨g, cap, cur, e, ?_, h2⟩
    exact h.1 g (by rw [e]; rfl)
theorem row_form {W : World} {base : Nat} {v : Value} {l : List Int} (h : RowB W base v l) (h0 : 0 < l.length) : ∃ b c, v = .slice (some ⟨b, 0, none⟩) l.length c ∧ l.length ≤ c ∧ ReadsInt W .u8 (some ⟨b, 0, none⟩) l.length l ∧ base ≤ b := by
  obtain ⟨g, c, e, hc, hg, _⟩ := own_slice_form h h0
  obtain ⟨A, c2, e2, hc2, hr⟩ := reads_own2 h
  rw [e] at e2
  simp only [Value.slice.injEq] at e2
  obtain ⟨rfl, _, rfl⟩ := e2
  refine ⟨g, c, e, hc2, hr, ?_⟩
  have ho := Kd.own_of_R h
  rcases ho.2 with ⟨e3, _⟩ | ⟨g3, c3, _, e3, hb, _⟩
  · rw [e] at e3; cases e3
  · rw [e] at e3
    simp only [Value.slice.injEq, Option.some.injEq, Addr.mk.injEq] at e3
    obtain ⟨⟨rfl, _⟩, _⟩ := e3
    exact hb
def Eight (w : World) (n : Int) (e : Ending) (w' : World) : Prop := ∃ b c, e = .returned (.slice (some ⟨b, 0, none⟩) 8 c) ∧ 8 ≤ c ∧ ReadsInt w' .u8 (some ⟨b, 0, none⟩) 8 (leB n 8) ∧ w.heap.size ≤ b ∧ Below w.heap.size w w'
theorem eight_calls (w : World) (n : Int) (h0 : 0 ≤ n) (h1 : n < 18446744073709551616) : Calls Tryz.prog 51 #[.int .u64 n] w (Eight w n) := by
  have HP := Aside0.mk (fits_w h0 (k := 8) (.inr (.inr ⟨rfl, h1⟩)))
  go_enter Tryz.func51, Tryz.ntmps51
  go_wp2_with (go_at_call 61; ((with_reducible refine (put_new 8 n w).mono ?_); rintro e w1 ⟨v1, rfl, hr1, hb1⟩; have HR1 := Aside0.mk hr1; have HB1 := Aside0.mk hb1; clear hr1 hb1))
  go_ret
  have hr := HR1.out
  rw [HP.out.2] at hr
  have hl : (leB n (8 : Int).toNat).length = 8 := leB_length n 8
  obtain ⟨b, c, rfl, hc, hrd, hb⟩ := row_form (row_rebase (w := w) hr) (by rw [hl]; decide)
  rw [hl] at hc hrd
  exact ⟨b, c, rfl, hc, hrd, hb, HB1.out⟩
def bodyL (sets : List SetT) : List Int := sets.flatMap fun s => leB s.1 8 ++ leB s.2 8
theorem bodyL_length (sets : List SetT) : (bodyL sets).length = 16 * sets.length := by
  induction sets with
  | nil => rfl
  | cons s l ih =>
    rw [bodyL, List.flatMap_cons, List.length_append, List.length_append, leB_length, leB_length, List.length_cons]
    have : (bodyL l).length = 16 * l.length := ih
    rw [bodyL] at this
    omega
theorem bodyL_snoc (l : List SetT) (s : SetT) : bodyL (l ++ [s]) = bodyL l ++ leB s.1 8 ++ leB s.2 8 := by simp [bodyL]
theorem bodyL_bys (sets : List SetT) : Bys (bodyL sets) := by
  intro x hx
  obtain ⟨s, _, h⟩ := List.mem_flatMap.1 hx
  rcases List.mem_append.1 h with h | h
  · exact leB_bysq _ _ x h
  · exact leB_bysq _ _ x h
structure PosSt (s : SetT) : Prop where
  a0 : 0 ≤ s.1
  a1 : s.1 ≤ 9223372036854775807
  n0 : 0 ≤ s.2
  n1 : s.2 < 18446744073709551616
set_option maxHeartbeats 2000000 in
theorem body_calls (w : World) (A : Option Addr) (c : Nat) (sets : List SetT) (h : SetK.C w A sets.length sets) (hp : ∀ s ∈ sets, PosSt s) (hl : sets.length ≤ 100000) :
    Calls Tryz.prog 32 #[.slice A sets.length c] w fun e w' => ∃ v : Value, e = .returned v ∧ RowB w' w.heap.size v (bodyL sets) ∧ Below w.heap.size w w' := by
  have HC := Aside0.mk h
  have HP := Aside0.mk hp
  clear h hp
  go_enter Tryz.func32, Tryz.ntmps32
  go_wp2
  go_loopw [3, 8] (fun u i wr => ∃ k : Nat, k ≤ sets.length ∧ i = .int .i64 k ∧ Aside0 (RowB wr w.heap.size u (bodyL (sets.take k))) ∧ Aside0 (Below w.heap.size w wr)) (fun _ i _ => (sets.length - intOf i).toNat)
  case atStart => exact ⟨0, Nat.zero_le _, rfl, ⟨Kd.R_nil _ _ _ _ _⟩, ⟨Below.refl _ _⟩⟩
  case round =>
    obtain ⟨k, hk, rfl, HR, HB⟩ := hrel
    by_cases hlt : k < sets.length
    · obtain ⟨x, hx⟩ : ∃ x, sets[k]? = some x := ⟨_, List.getElem?_eq_getElem hlt⟩
      obtain ⟨bb, ob, hA, hcb⟩ := C_at (Kd.C_below HC.out HB.out) (by decide) hx
      have HPX := Aside0.mk (HP.out x (List.mem_of_getElem? hx))
      have HTK := Aside0.mk (show bodyL (sets.take (k + 1)) = bodyL (sets.take k) ++ leB x.1 8 ++ leB x.2 8 by rw [List.take_add_one, hx, Option.toList_some, bodyL_snoc])
      have HLK := Aside0.mk (show (bodyL (sets.take k)).length = 16 * k by rw [bodyL_length, List.length_take, Nat.min_eq_left hk])
      obtain ⟨x, y⟩ := x
      have b0 : wr.cell? ⟨bb, ob + k * 2, none⟩ = some (.int .i64 x) := hcb 0 (by decide)
      have b1 : wr.cell? ⟨bb, ob + k * 2 + 1, none⟩ = some (.int .u64 y) := hcb 1 (by decide)
      have k1 : IntKind.u64.wrap x = x := u64_wrap_of HPX.out.a0 (by have := HPX.out.a1; simp only at this; omega)
      subst hA
      clear hcb hx
      obtain ⟨l0, hl0⟩ : ∃ l0, l0 = bodyL (sets.take k) := ⟨_, rfl⟩
      rw [← hl0] at HR HTK HLK
      clear hl0
      have HOB := Aside0.mk (show ∀ j, some j = u3.ownBlock → j < wr.heap.size from fun j hj => by obtain ⟨cs, t, fr, hc⟩ := own_blk HR.out hj; exact blk_lt hc)
      go_wp2_with (first | (go_at_call 51; ((with_reducible refine (eight_calls _ x HPX.out.a0 (by have := HPX.out.a1; simp only at this; omega)).mono ?_); rintro e w1 ⟨g1, c1, rfl, hc1, hr1, hg1, hb1⟩; have HR1 := Aside0.mk hr1; have HB1 := Aside0.mk (bel_step (below_alloc HB.out _) hb1); have HRV1 := Aside0.mk (Kd.R_below HR.out (bel_step (below_alloc (Below.refl _ _) _) hb1)); have d1 := bel_cell hb1 (new_cell wr #[.int .i64 x, .int .u64 y] 66 1 rfl); clear hc1 hr1 hg1 hb1)) | (go_at_call 51; ((with_reducible refine (eight_calls _ y HPX.out.n0 HPX.out.n1).mono ?_); rintro e w3 ⟨g3, c3, rfl, hc3, hr3, hg3, hb3⟩; have HR3 := Aside0.mk hr3; have HB3 := Aside0.mk (bel_step HB2.out hb3); have HRV3 := Aside0.mk (Kd.R_below HRV2.out hb3); clear hc3 hr3 hg3 hb3)) | ((with_reducible refine gate_bi (b := .append) (xs := #[.tmp 12, .tmp 16]) rfl ?_); go_must (refine Kd.R_append_row (Value.int .u8) 0 (h1 := fun _ => rfl) (w0 := w) w.heap.size rfl (.tmp 12) (.tmp 16) 22 5 (.int .u8 0) 1 rfl Tryz.underlying22 info_u8 rfl (by decide) u3 l0 (leB x 8) (some ⟨g1, 0, none⟩) 8 c1 (fun _ => True) rfl rfl (fun _ _ => trivial) HRV1.out (Kd.C_of_reads (d := (0 : Int)) (h1 := fun _ => rfl) HR1.out) HB1.out HB1.out.size (by have := HLK.out; omega) ?_); intro v2 w2 ho2 hb2 hg2 hat2; have HRV2 := Aside0.mk (show RowB w2 w.heap.size v2 (l0 ++ leB x 8) from ho2); have HB2 := Aside0.mk hb2; have d2 : w2.cell? ⟨wr.heap.size, 1, none⟩ = some (.int .u64 y) := ((Fr.refl (fun b => some b = u3.ownBlock) _).grown hg2 (fun k hk => .inl hk.symm)).cell d1 (fun e => absurd (HOB.out _ e) (Nat.lt_irrefl _)); clear ho2 hb2 hg2 hat2) | ((with_reducible refine gate_bi (b := .append) (xs := #[.tmp 18, .tmp 21]) rfl ?_); go_must (refine Kd.R_append_row (Value.int .u8) 0 (h1 := fun _ => rfl) (w0 := w) w.heap.size rfl (.tmp 18) (.tmp 21) 22 5 (.int .u8 0) 1 rfl Tryz.underlying22 info_u8 rfl (by decide) v2 (l0 ++ leB x 8) (leB y 8) (some ⟨g3, 0, none⟩) 8 c3 (fun _ => True) rfl rfl (fun _ _ => trivial) HRV3.out (Kd.C_of_reads (d := (0 : Int)) (h1 := fun _ => rfl) HR3.out) HB3.out HB3.out.size (by have := HLK.out; rw [List.length_append, leB_length]; omega) ?_); intro v4 w4 ho4 hb4 hg4 hat4; have HRV4 := Aside0.mk (show RowB w4 w.heap.size v4 (l0 ++ leB x 8 ++ leB y 8) from ho4); have HB4 := Aside0.mk hb4; clear ho4 hb4 hg4 hat4))
      refine ⟨⟨k + 1, by omega, by go_num, ⟨?_⟩, HB4⟩, by simp [intOf]; omega⟩
      rw [HTK.out]
      exact HRV4.out
    · obtain rfl : k = sets.length := by omega
      go_wp2
      go_ret
      have := HR.out
      rw [List.take_of_length_le (Nat.le_refl _)] at this
      exact ⟨_, rfl, this, HB.out⟩
def hd6 (many seq : Int) : List Int := leB many 2 ++ leB seq 4
def headL (many seq : Int) (l : List Int) : List Int := hd6 many seq ++ leB (crcI (hd6 many seq ++ l)) 2
theorem hd6_length (many seq : Int) : (hd6 many seq).length = 6 := by rw [hd6, List.length_append, leB_length, leB_length]
theorem headL_length (many seq : Int) (l : List Int) : (headL many seq l).length = 8 := by rw [headL, List.length_append, hd6_length, leB_length]
theorem headL_bys (many seq : Int) (l : List Int) : Bys (headL many seq l) := by
  intro x hx
  rcases List.mem_append.1 hx with hx | hx
  · rcases List.mem_append.1 hx with hx | hx
    · exact leB_bysq _ _ x hx
    · exact leB_bysq _ _ x hx
  · exact leB_bysq _ _ x hx
theorem sum_two (l m : List Int) (A B : Option Addr) (c e g n : Nat) (w : World) (hg : w.heap[g]? = some (.cells #[.slice A l.length c, .slice B m.length e] 22 (0, 0))) (hr : ReadsInt w .u8 A l.length l) (hs : ReadsInt w .u8 B m.length m) (hl : l.length ≤ 1000000) (hm : m.length ≤ 2000000) :
    Calls Tryz.prog 62 #[.slice (some ⟨g, 0, none⟩) 2 n] w fun e w' => e = .returned (.int .i64 (crcI (l ++ m))) ∧ Below w.heap.size w w' := by
  have h := sum_calls [(A, c, l), (B, e, m)] ⟨g, 0, none⟩ n w (fun j h => by
    rcases (show j = 0 ∨ j = 1 by simp at h; omega) with rfl | rfl
    · exact blk_cell hg rfl
    · exact blk_cell hg rfl) (fun j h => by
    rcases (show j = 0 ∨ j = 1 by simp at h; omega) with rfl | rfl
    · exact ⟨hr, by simp; omega⟩
    · exact ⟨hs, by simp; omega⟩) (by simp)
  have he : tI (sumV 0#16 [(A, c, l), (B, e, m)]) = crcI (l ++ m) := by rw [crcI, crcV_append]; rfl
  rw [he] at h
  exact h
set_option maxHeartbeats 2000000 in
theorem head_calls (w : World) (many seq : Int) (A : Option Addr) (c : Nat) (l : List Int) (hr : ReadsInt w .u8 A l.length l) (h0 : 0 ≤ many) (h1 : many < 65536) (s0 : 0 ≤ seq) (s1 : seq < 4294967296) (hl : l.length ≤ 2000000) :
    Calls Tryz.prog 34 #[.int .i64 many, .int .i64 seq, .slice A l.length c] w fun e w' => ∃ v : Value, e = .returned v ∧ RowB w' w.heap.size v (headL many seq l) ∧ Below w.heap.size w w' := by
  have HR := Aside0.mk hr
  have HP1 := Aside0.mk (show putL many 2 = leB many 2 from (fits_w h0 (k := 2) (.inl ⟨rfl, h1⟩)).2)
  have HP2 := Aside0.mk (show putL seq 4 = leB seq 4 from (fits_w s0 (k := 4) (.inr (.inl ⟨rfl, s1⟩))).2)
  obtain ⟨hc0, hc1⟩ : 0 ≤ crcI (hd6 many seq ++ l) ∧ crcI (hd6 many seq ++ l) < 65536 := tI_lt _
  have HP3 := Aside0.mk (show putL (crcI (hd6 many seq ++ l)) 2 = leB (crcI (hd6 many seq ++ l)) 2 from (fits_w hc0 (k := 2) (.inl ⟨rfl, hc1⟩)).2)
  have HH := Aside0.mk (show headL many seq l = hd6 many seq ++ leB (crcI (hd6 many seq ++ l)) 2 from rfl)
  have k1 : IntKind.u64.wrap many = many := u64_wrap_of h0 (by omega)
  have k2 : IntKind.u64.wrap seq = seq := u64_wrap_of s0 (by omega)
  have k3 : IntKind.u64.wrap (crcI (hd6 many seq ++ l)) = crcI (hd6 many seq ++ l) := u64_wrap_of hc0 (by omega)
  have h6 := hd6_length many seq
  obtain ⟨m6, hm6⟩ : ∃ m6, m6 = hd6 many seq := ⟨_, rfl⟩
  have HM := Aside0.mk (show leB many 2 ++ leB seq 4 = m6 by rw [hm6]; rfl)
  rw [← hm6] at HP3 HH h6 k3 hc0 hc1
  obtain ⟨cr, hcr⟩ : ∃ cr, cr = crcI (m6 ++ l) := ⟨_, rfl⟩
  rw [← hcr] at HP3 HH k3 hc0 hc1
  have HCR := Aside0.mk hcr
  have HL6 := Aside0.mk h6
  clear hr hm6 hcr h6
  go_enter Tryz.func34, Tryz.ntmps34
  go_wp2_with (first | (go_at_call 61; (first | ((with_reducible refine (put_any (New w) (.slice A2 m6.length c2) m6 2 cr _ HR3.out (by have := HL6.out; omega)).mono ?_); rw [HP3.out]; rintro e w4 ⟨v4, rfl, hr4, hf4⟩; have HR4 := Aside0.mk hr4; have HB4 := Aside0.mk (HB3.out.trans (hf4.below _ HB3.out.size (fun b hb => hb))); clear hr4 hf4) | ((with_reducible refine (put_any (New w) v1 (leB many 2) 4 seq w1 HR1.out (by rw [leB_length]; omega)).mono ?_); rw [HP2.out, HM.out]; rintro e w2 ⟨v2, rfl, hr2, hf2⟩; obtain ⟨A2, c2, rfl, _, hrd2⟩ := reads_own2 hr2; have HR2 := Aside0.mk (Kd.R_mono hr2 (fun k hk => hk.elim id (fun h => Nat.le_trans HB1.out.size h))); have HRD2 := Aside0.mk hrd2; have HB2 := Aside0.mk (HB1.out.trans (hf2.below _ HB1.out.size (fun b hb => hb))); clear hr2 hf2 hrd2) | ((with_reducible refine (put_new 2 many w).mono ?_); rw [HP1.out]; rintro e w1 ⟨v1, rfl, hr1, hb1⟩; have HR1 := Aside0.mk hr1; have HB1 := Aside0.mk hb1; clear hr1 hb1))) | (go_at_call 62; ((with_reducible refine (sum_two m6 l A2 A c2 c w2.heap.size 2 _ (heap_alloc_new w2 _) (HRD2.out.below (below_alloc (Below.refl _ _) _)) (HR.out.below (below_alloc HB2.out _)) (by have := HL6.out; omega) hl).mono ?_); rw [← HCR.out]; rintro e w3 ⟨rfl, hb3⟩; have HB3 := Aside0.mk (bel_step (below_alloc HB2.out _) hb3); have HR3 := Aside0.mk (show Kd.R (Kd.int .u8) 5 w3 0 (New w) (.slice A2 m6.length c2) m6 from Kd.R_below (Kd.R_below HR2.out (below_alloc (Below.refl _ _) _)) hb3); clear hb3)))
  go_ret
  rw [HH.out]
  refine ⟨_, rfl, row_rebase (w := w) (Kd.R_mono HR4.out (fun k hk => hk.elim id (fun h => Nat.le_trans HB3.out.size h))), HB4.out⟩
end Go.Proofs.YtbfogcckbhkciaaGreat.Hand
