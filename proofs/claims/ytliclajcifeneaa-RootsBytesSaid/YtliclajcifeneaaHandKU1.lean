/- What a claim needs of the walks and contracts, part U1. -/
import Derived.Deep.RegionHeld
import Derived.Test.YtliclajcifeneaaHandKT1
import Derived.Test.YtliclajcifeneaaHandKB1
namespace Go.Proofs.Ytliclajcifeneaa.Hand
set_option linter.unusedVariables false
set_option linter.unusedSimpArgs false
open Go.RowKit Go.Proofs.YtliclajcifeneaaW.PrintWords
set_option linter.unusedVariables false
set_option linter.unusedSimpArgs false
/-- Bytes as a name. -/
def nmI (l : List Int) : Nm := l.map fun n => UInt8.ofNat n.toNat
theorem nmI_data (l : List Int) : (strOfNums l).data.toList = nmI l := by rw [← ba_list, Lib.strOfNums_toList]; rfl
theorem nmI_back (x : Nm) : nmI (bytesOf (nmB x)) = x := by
  rw [nmI, bytesOf, List.map_map]
  conv => rhs; rw [← List.map_id x]
  refine List.map_congr_left (fun b _ => ?_)
  simp
theorem goodE {L : List Rt} (hg : GoodR L) (x : Nm) (h : Int × Int) : GoodR (setE L x h).1 := by
  rw [setE]
  by_cases h1 : okName x = false ∨ pk h = 0
  · rw [if_pos h1]; exact hg
  · rw [if_neg h1]
    by_cases h2 : (getR L x).isSome = false ∧ 16 ≤ L.length
    · rw [if_pos h2]; exact hg
    · rw [if_neg h2]
      refine hg.put (by simpa using fun e => h1 (.inl e)) (fun e => h1 (.inr e)) ?_
      cases h3 : (getR L x).isSome with
      | true => exact .inl rfl
      | false => exact .inr (Nat.lt_of_not_le fun e => h2 ⟨h3, e⟩)
/-- One root that bytes tell. -/
def stepR (l : List Int) (a : Nat) (L : List Rt) : List Rt × Int := setE L (nmI (cut l (a + 1) (l.getD a 0).toNat)) (unpackM (gNum l ((a + 1 + (l.getD a 0).toNat : Nat) : Int) 8))
/-- The roots that bytes tell from a on. -/
def decF : Nat → List Int → Nat → List Rt → Option (List Rt)
  | 0, _, _, L => some L
  | n + 1, l, a, L =>
    if a < l.length then
      if a + 9 + (l.getD a 0).toNat ≤ l.length then
        if (stepR l a L).2 = 0 then decF n l (a + 9 + (l.getD a 0).toNat) (stepR l a L).1 else none
      else none
    else some L
def decR (l : List Int) : Option (List Rt) := match decF l.length l 1 [] with
  | none => none
  | some L => if encR L = l then some L else none
theorem byte_range {l : List Int} (hb : Bys l) {a : Nat} (h : a < l.length) : 0 ≤ l.getD a 0 ∧ l.getD a 0 < 256 := by
  refine hb _ ?_
  rw [List.getD_eq_getElem?_getD, List.getElem?_eq_getElem h]
  exact List.getElem_mem _
theorem pow256r (m : Nat) : (256 : Int) ^ m = 2 ^ (8 * m) := by
  rw [Int.pow_mul]; rfl
theorem mod_splitr (n a : Int) (h : 0 < a) : n % (a * 256) = a * (n / a % 256) + n % a := by
  have h1 := Int.mul_ediv_add_emod n a
  have h2 := Int.mul_ediv_add_emod (n / a) 256
  have b1 := Int.emod_nonneg (n / a) (show (256 : Int) ≠ 0 by decide)
  have b2 := Int.emod_lt_of_pos (n / a) (show (0 : Int) < 256 by decide)
  have b3 := Int.emod_nonneg n (show a ≠ 0 by omega)
  have b4 := Int.emod_lt_of_pos n h
  have hle : a * (n / a % 256) ≤ a * 255 := Int.mul_le_mul_of_nonneg_left (by omega) (by omega)
  have hge : 0 ≤ a * (n / a % 256) := Int.mul_nonneg (by omega) b1
  have e : n = (a * (n / a % 256) + n % a) + a * 256 * (n / a / 256) := by
    have : a * (n / a) = a * (256 * (n / a / 256) + n / a % 256) := by rw [h2]
    rw [Int.mul_add, ← Int.mul_assoc] at this
    omega
  conv => lhs; rw [e]
  rw [Int.add_mul_emod_self_left]
  exact Int.emod_eq_of_lt (by omega) (by omega)
theorem numL_leBr (n : Int) (k : Nat) : numL (leB n k) = n % 2 ^ (8 * k) := by
  induction k with
  | zero => simp [leB, numL, Int.emod_one]
  | succ k ih =>
    rw [leB, numL_append, ih, leB_length, pow256r, Nat.mul_add, Int.pow_add]
    simp only [numL, Int.mul_zero, Int.add_zero]
    have h2 : (0 : Int) < 2 ^ (8 * k) := Int.pow_pos (by omega)
    have h3 : (2 : Int) ^ (8 * 1) = 256 := by decide
    rw [h3, mod_splitr n _ h2, Int.add_comm]
theorem gNum_at8 (pre post : List Int) {n : Int} (h0 : 0 ≤ n) (h1 : n < 18446744073709551616) : gNum (pre ++ leB n 8 ++ post) (pre.length : Int) 8 = n := by
  have hi : insideB (pre.length : Int) 8 (pre ++ leB n 8 ++ post).length = true := by
    rw [insideB]
    simp only [List.length_append, leB_length, Bool.and_eq_true, decide_eq_true_eq]
    omega
  have e : cut (pre ++ leB n 8 ++ post) pre.length 8 = leB n 8 := by
    rw [cut, List.append_assoc, List.drop_left' rfl]
    have h8 := leB_length n 8
    rw [List.take_append_of_le_length (by omega), List.take_of_length_le (by omega)]
  rw [gNum, show rightB 8 = true from rfl, hi, Bool.and_self, if_pos rfl, Int.toNat_natCast, show (8 : Int).toNat = 8 from rfl, e, numL_leBr]
  exact Int.emod_eq_of_lt h0 (by simpa using h1)
/-- A root behind all others. -/
theorem set_last {L : List Rt} {q : Rt} (hg : GoodR (L ++ [q])) : setE L q.1 q.2 = (L ++ [q], 0) := by
  obtain ⟨h1, h2⟩ := hg.each q (by simp)
  have hs := hg.sorted
  rw [SortedR, List.pairwise_append] at hs
  have hlt : ∀ p ∈ L, p.1 < q.1 := fun p hp => hs.2.2 p hp q (by simp)
  have hn : getR L q.1 = none := getR_none.2 (fun p hp => nm_ne (hlt p hp))
  have hp : ∀ (M : List Rt), (∀ p ∈ M, p.1 < q.1) → putR M q.1 q.2 = M ++ [q] := fun M => by
    induction M with
    | nil => intro _; rfl
    | cons p M ih =>
      intro h
      have hpq := h p (by simp)
      rw [putR, if_neg (nm_asymm hpq), if_neg (nm_ne hpq), ih (fun x hx => h x (by simp [hx]))]
      rfl
  have hf := hg.few
  rw [List.length_append] at hf
  simp at hf
  rw [setE, if_neg (by simp [h1, h2]), if_neg (by rintro ⟨_, h⟩; omega), hp L hlt]
theorem encRs_cons (q : Rt) (l : List Rt) : encRs (q :: l) = encR1 q ++ encRs l := rfl
theorem encRs_app (a b : List Rt) : encRs (a ++ b) = encRs a ++ encRs b := by simp [encRs]
theorem encR1_length (q : Rt) : (encR1 q).length = 9 + q.1.length := by
  simp [encR1, bytesOf_length, leB_length, ByteArray.size]; omega
theorem step_enc {l : List Int} {pre post : List Int} {q : Rt} {L : List Rt} (hl : l = pre ++ encR1 q ++ post) (hg : GoodR (L ++ [q])) : (l.getD pre.length 0).toNat = q.1.length ∧ stepR l pre.length L = (L ++ [q], 0) := by
  have hb : l.getD pre.length 0 = (q.1.length : Int) := by
    rw [hl, List.getD_eq_getElem?_getD, List.append_assoc, List.getElem?_append_right (Nat.le_refl _), Nat.sub_self]
    simp [encR1]
  have hq := (hg.each q (by simp)).2
  refine ⟨by rw [hb, Int.toNat_natCast], ?_⟩
  rw [stepR, hb, Int.toNat_natCast]
  have e1 : cut l (pre.length + 1) q.1.length = bytesOf (nmB q.1) := by
    have hx : l = (pre ++ [(q.1.length : Int)]) ++ (bytesOf (nmB q.1) ++ (leB (pk q.2) 8 ++ post)) := by rw [hl]; simp [encR1]
    have hz : (bytesOf (nmB q.1)).length = q.1.length := by rw [bytesOf_length]; simp [ByteArray.size]
    rw [cut, hx, List.drop_left' (by simp), List.take_append_of_le_length (by omega), List.take_of_length_le (by omega)]
  have e2 : gNum l ((pre.length + 1 + q.1.length : Nat) : Int) 8 = pk q.2 := by
    have hx : l = (pre ++ [(q.1.length : Int)] ++ bytesOf (nmB q.1)) ++ leB (pk q.2) 8 ++ post := by rw [hl]; simp [encR1]
    have hz : (pre ++ [(q.1.length : Int)] ++ bytesOf (nmB q.1)).length = pre.length + 1 + q.1.length := by simp [bytesOf_length, ByteArray.size]; omega
    obtain ⟨p0, p1⟩ := pk_range q.2
    have := gNum_at8 (pre ++ [(q.1.length : Int)] ++ bytesOf (nmB q.1)) post p0 (by omega)
    rw [hz, ← hx] at this
    exact this
  rw [e1, e2, nmI_back, pk, unpack_pk _ _ hq]
  exact set_last hg
theorem dec_enc (H : Int) : ∀ (rest pre : List Rt) (n : Nat), GoodR (pre ++ rest) → rest.length ≤ n → decF n (H :: encRs (pre ++ rest)) (1 + (encRs pre).length) pre = some (pre ++ rest)
  | [], pre, n, hg, hn => by
    rw [List.append_nil]
    cases n with
    | zero => rw [decF]
    | succ n => rw [decF, if_neg (by simp; omega)]
  | q :: r, pre, 0, hg, hn => by simp at hn
  | q :: r, pre, n + 1, hg, hn => by
    have hg2 : GoodR (pre ++ [q]) := ⟨by
        have := hg.sorted
        rw [show pre ++ q :: r = (pre ++ [q]) ++ r by simp, SortedR, List.pairwise_append] at this
        exact this.1, by have := hg.few; simp at this ⊢; omega, fun p hp => hg.each p (by simp at hp ⊢; rcases hp with h | h; exact .inl h; exact .inr (.inl h))⟩
    obtain ⟨s1, s2⟩ := step_enc (l := H :: encRs (pre ++ q :: r)) (pre := H :: encRs pre) (post := encRs r) (q := q) (L := pre) (by rw [encRs_app, encRs_cons]; simp) hg2
    rw [show (H :: encRs pre).length = 1 + (encRs pre).length by simp; omega] at s1 s2
    have hlen : (H :: encRs (pre ++ q :: r)).length = 1 + (encRs pre).length + (9 + q.1.length) + (encRs r).length := by
      rw [encRs_app, encRs_cons]; simp [encR1_length]; omega
    rw [decF, if_pos (by omega), s1, if_pos (by omega), s2, if_pos rfl]
    have := dec_enc H r (pre ++ [q]) n (by simpa using hg) (by simp at hn; omega)
    rw [show pre ++ [q] ++ r = pre ++ q :: r by simp, show (encRs (pre ++ [q])).length = (encRs pre).length + (9 + q.1.length) by rw [encRs_app, List.length_append, encRs_cons, List.length_append, encR1_length]; rfl] at this
    rw [show 1 + (encRs pre).length + 9 + q.1.length = 1 + ((encRs pre).length + (9 + q.1.length)) by omega]
    exact this
/-- What was encoded is read back. -/
theorem decR_enc {L : List Rt} (hg : GoodR L) : decR (encR L) = some L := by
  have hle : L.length ≤ (encR L).length := by
    have : ∀ M : List Rt, M.length ≤ (encRs M).length := fun M => by
      induction M with
      | nil => simp
      | cons q l ih => rw [encRs_cons, List.length_append, encR1_length, List.length_cons]; omega
    have := this L
    simp only [encR, List.length_append]
    omega
  have := dec_enc (L.length : Int) L [] (encR L).length hg hle
  have e : encR L = (L.length : Int) :: encRs L := rfl
  rw [List.nil_append, ← e] at this
  have h1 : 1 + (encRs []).length = 1 := rfl
  rw [h1] at this
  rw [decR, this]
  exact if_pos rfl
theorem enc_bysr {L : List Rt} (hg : GoodR L) : Bys (encR L) := by
  intro x hx
  rw [encR, List.mem_append] at hx
  rcases hx with hx | hx
  · obtain rfl : x = (L.length : Int) := by simpa using hx
    have := hg.few
    omega
  · rw [encRs, List.mem_flatMap] at hx
    obtain ⟨q, hq, hx⟩ := hx
    have hn := name_len hg hq
    simp only [encR1, List.mem_append, List.mem_singleton] at hx
    rcases hx with (rfl | hx) | hx
    · omega
    · exact bytesOf_bys _ x hx
    · have : ∀ k, Bys (leB (pk q.2) k) := fun k => by
        induction k with
        | zero => intro y hy; simp [leB] at hy
        | succ k ih =>
          intro y hy
          rw [leB, List.mem_append] at hy
          rcases hy with hy | hy
          · exact ih y hy
          · obtain rfl : y = _ := by simpa using hy
            constructor
            · exact Int.emod_nonneg _ (by decide)
            · exact Int.emod_lt_of_pos _ (by decide)
      exact this 8 x hx
theorem encR_len {L : List Rt} (hg : GoodR L) : (encR L).length ≤ 400 := by
  have := encRs_len hg L (fun q h => h)
  have := hg.few
  simp only [encR, List.length_append, List.length_singleton]
  omega
end Go.Proofs.Ytliclajcifeneaa.Hand
namespace Go.Proofs.Ytliclajcifeneaa.Hand
set_option linter.unusedVariables false
set_option linter.unusedSimpArgs false
open Go.RowKit Go.Maps Go.Sort Go.Shelf Go.Proofs.YtliclajcifeneaaW.PrintWords Go.Proofs.Ytliclajcifeneaa.PHandRR
attribute [local go_sem high] eqA29
set_option linter.unusedVariables false
set_option linter.unusedSimpArgs false
theorem reads_take {w : World} {A : Option Addr} {n : Nat} {xs : List Int} (h : ReadsInt w .u8 A n xs) (m : Nat) (hm : m ≤ n) : ReadsInt w .u8 A m (xs.take m) := by
  refine ⟨by rw [List.length_take, h.1]; omega, by have := h.2.1; omega, fun hp => ?_⟩
  obtain ⟨ad, e, hc⟩ := h.2.2 (by omega)
  refine ⟨ad, e, fun j hj => ?_⟩
  rw [hc j (by omega), List.getD_eq_getElem?_getD, List.getD_eq_getElem?_getD, List.getElem?_take_of_lt hj]
theorem mid_any (A : Option Addr) (c n a m : Nat) (i j : Int) (hi : i = a) (hj : j = (a + m : Nat)) (hn : a + m ≤ n) (hc : n ≤ c) : ∃ A' : Option Addr, (∀ W : World, (Instr.slice 46 (.slice A n c) (some (.int .i64 i)) (some (.int .i64 j)) none).run Try.prog W = .ok (.slice A' m (c - a)) W) ∧
    ∀ (w : World) (xs : List Int), ReadsInt w .u8 A n xs → ReadsInt w .u8 A' m (cut xs a m) := by
  obtain ⟨q, hq, hz⟩ := info_of
  refine ⟨if c = a then A else A.map (·.add a), fun W => ?_, fun w xs h => ?_⟩
  · have := cut_mid 46 5 .i64 .i64 Try.underlying46 hq 1 hz A n c i j (by omega) (by omega) (by omega) hc W
    rw [this, show i.toNat = a by omega, show j.toNat - a = m by omega, Nat.mul_one]
  · exact reads_take (h.drop_ a (by omega) hc) m (by omega)
theorem byte_atr {w : World} {A : Option Addr} {l : List Int} (hr : ReadsInt w .u8 A l.length l) {a : Nat} (ha : a < l.length) : ∃ ad, A = some ad ∧ w.cell? (ad.add a) = some (.int .u8 (l.getD a 0)) := by
  obtain ⟨ad, e, hc⟩ := hr.2.2 (by omega)
  exact ⟨ad, e, hc a ha⟩
theorem gNum_range8 {l : List Int} (hb : Bys l) (a : Int) : 0 ≤ gNum l a 8 ∧ gNum l a 8 < 18446744073709551616 := by
  unfold gNum
  split
  · have hc := cut_bys hb a.toNat 8
    refine ⟨numL_nonneg hc, Int.lt_of_lt_of_le (numL_lt hc) ?_⟩
    have : (cut l a.toNat 8).length ≤ 8 := by unfold cut; rw [List.length_take]; omega
    have h2 := Nat.pow_le_pow_right (n := 256) (by decide) this
    have h3 : (((256 : Nat) ^ (cut l a.toNat 8).length : Nat) : Int) ≤ ((256 ^ 8 : Nat) : Int) := Int.ofNat_le.2 h2
    rwa [Int.natCast_pow] at h3
  · exact ⟨Int.le_refl _, by decide⟩
/-- What Decode leaves. -/
def DecOutR (w : World) (R : Option (List Rt)) (e : Ending) (w' : World) : Prop :=
  ((∃ (p s : Nat) (L : List Rt), R = some L ∧ e = .returned (.tuple #[.pointer (some ⟨p, 0, none⟩), .int .i64 0]) ∧ HasR w' p s L) ∨ (R = none ∧ e = .returned (.tuple #[.pointer none, .int .i64 1]))) ∧ Below w.heap.size w w'
set_option maxRecDepth 100000 in
set_option maxHeartbeats 4000000 in
theorem rdec_calls (w : World) (A : Option Addr) (c : Nat) (l : List Int) (hr : ReadsInt w .u8 A l.length l) (hb : Bys l) (hc : l.length ≤ c) (hl5 : l.length ≤ 5000) :
    Calls Try.prog 23 #[.slice A l.length c] w (DecOutR w (decR l)) := by
  have hu29 := Try.underlying29
  have HR := Aside0.mk hr
  have HBY := Aside0.mk hb
  obtain ⟨D, hD⟩ : ∃ D, decF l.length l 1 [] = D := ⟨_, rfl⟩
  obtain ⟨Rs, hRs⟩ : ∃ Rs, Rs = decR l := ⟨_, rfl⟩
  rw [← hRs]
  have HRS := Aside0.mk hRs
  rw [decR, hD] at hRs
  have HRD := Aside0.mk hRs
  have HD0 := Aside0.mk hD
  clear hr hb hD hRs
  go_enter Try.func23, Try.ntmps23
  go_wp2_with (go_at_call 10; (with_reducible refine (rnew_calls w).mono ?_); rintro e w1 ⟨p, s, rfl, h1, hb1, hp1, hs1⟩; have H1 := Aside0.mk h1; have HB1 := Aside0.mk hb1; clear h1 hb1)
  go_loopw [5] (fun vi wr => ∃ (n a : Nat) (L : List Rt), vi = .int .i64 a ∧ l.length ≤ a + n ∧ a ≤ l.length + 1 ∧ Aside0 (decF n l a L = D) ∧ Aside0 (HasR wr p s L) ∧ Aside0 (Below w.heap.size w wr)) (fun vi _ => l.length - (nOf vi).toNat)
  case atStart => exact ⟨l.length, 1, [], rfl, by omega, by omega, HD0, H1, HB1⟩
  case round =>
    obtain ⟨n, a, L, rfl, hn, ha, HD, HH, HB⟩ := hrel
    clear H1 HB1 HD0
    by_cases hlt : a < l.length
    · obtain ⟨n, rfl⟩ : ∃ k, n = k + 1 := ⟨n - 1, by omega⟩
      obtain ⟨b0, b1⟩ := byte_range HBY.out hlt
      obtain ⟨m, hm⟩ : ∃ m : Nat, l.getD a 0 = m := ⟨(l.getD a 0).toNat, by omega⟩
      obtain ⟨ad, hA, x0⟩ := byte_atr (HR.out.below HB.out) hlt
      rw [hm] at b0 b1 x0
      have hd := HD.out
      rw [decF, if_pos hlt, hm, Int.toNat_natCast] at hd
      obtain ⟨a1, h1⟩ : ∃ a1 : Nat, a1 = a + 1 := ⟨_, rfl⟩
      obtain ⟨E, hE⟩ : ∃ E : Nat, E = a1 + m := ⟨_, rfl⟩
      have hA1 : (a : Int) + 1 = (a1 : Int) := by omega
      have hE1 : (a1 : Int) + (m : Int) = (E : Int) := by omega
      have HE := Aside0.mk (show E = a + 1 + m by omega)
      have hw8 : IntKind.i64.wrap ((E : Int) + 8) = (E : Int) + 8 := IntWalk.i64_in _ (by omega)
      have hwm : IntKind.i64.wrap (m : Int) = (m : Int) := IntWalk.i64_in _ (by omega)
      have hwA : IntKind.i64.wrap (a1 : Int) = (a1 : Int) := IntWalk.i64_in _ (by omega)
      have hwE : IntKind.i64.wrap (E : Int) = (E : Int) := IntWalk.i64_in _ (by omega)
      obtain ⟨g, hg⟩ : ∃ g, gNum l (E : Int) 8 = g := ⟨_, rfl⟩
      obtain ⟨g0, g1⟩ := gNum_range8 HBY.out (E : Int)
      rw [hg] at g0 g1
      by_cases hin : a + 9 + m ≤ l.length
      · rw [if_pos hin] at hd
        have HGET := Aside0.mk (fun (W : World) (hW : Below w.heap.size w W) => show Calls Try.prog 40 #[.slice A l.length c, .int .i64 (E : Int), .int .i64 8] W (fun e w' => e = .returned (.tuple #[.int .u64 g, .bool true]) ∧ Below W.heap.size W w') from by
          have := get_any A c l (E : Int) 8 W (HR.out.below hW) HBY.out
          rw [hg, show (rightB 8 && insideB (E : Int) 8 l.length) = true by simp [rightB, insideB]; omega] at this
          exact this)
        obtain ⟨A2, hsl, hrd⟩ := mid_any A c l.length a1 m (a1 : Int) (E : Int) rfl (by omega) (by omega) hc
        have HCV := Aside0.mk (fun (W : World) (hW : Below w.heap.size w W) => show (convert 46 9 (.slice A2 m (c - a1))).run Try.prog W = .ok (.string (strOfNums (cut l a1 m))) W from by
          have h2 := hrd W l (HR.out.below hW)
          have h3 : (cut l a1 m).length = m := cut_length (by omega)
          have := conv_reads (c := c - a1) (xs := cut l a1 m) (by rw [h3]; exact h2)
          rwa [h3] at this)
        obtain ⟨⟨ua, ub⟩, hu⟩ : ∃ u, unpackM g = u := ⟨_, rfl⟩
        have hst : stepR l a L = setE L (nmI (cut l a1 m)) (ua, ub) := by
          rw [stepR, hm, Int.toNat_natCast, ← h1, ← hE, hg, hu]
        have HUN := Aside0.mk (fun (W : World) => show Calls Try.prog 37 #[.int .u64 g] W (fun e w' => e = .returned (.agg #[.int .i64 ua, .int .i64 ub]) ∧ Below W.heap.size W w') from by
          have := unpack_calls g g0 g1 W
          rw [hu] at this
          exact this)
        obtain ⟨L2, e0, hse⟩ : ∃ L2 e0, stepR l a L = (L2, e0) := ⟨_, _, rfl⟩
        have HSET := Aside0.mk (fun (W : World) (hW : HasR W p s L) => show Calls Try.prog 16 #[.pointer (some ⟨p, 0, none⟩), .string (strOfNums (cut l a1 m)), .agg #[.int .i64 ua, .int .i64 ub]] W (fun e w' => e = .returned (.int .i64 e0) ∧ HasR w' p s L2 ∧ Fr (fun b => b = s) W w') from by
          have := rset_calls W p s L hW (strOfNums (cut l a1 m)) (by rw [strOfNums_size, cut_length (by omega)]; unfold maxLen; omega) ua ub
          rw [nmI_data, ← hst, hse] at this
          exact this)
        rw [hse] at hd
        subst hA
        by_cases he0 : e0 = 0
        · subst he0
          rw [if_pos rfl] at hd
          have HDN := Aside0.mk hd
          clear hst hse hu hg hrd hd h1 hE hm
          go_wp2_with (go_at_call 40; (with_reducible refine (HGET.out _ HB.out).mono ?_); rintro e w5 ⟨rfl, hb5⟩; have HB5 := Aside0.mk (bel_step HB.out hb5).drew; have H5 := Aside0.mk ((HH.out.below hb5).below (Below.refl w5.heap.size w5).drew); clear hb5)
          go_region_held (fun w' => (convert 46 9 (.slice A2 m (c - a1))).run Try.prog w' = .ok (.string (strOfNums (cut l a1 m))) w') (first | exact HCV.out _ HB7.out | exact HCV.out _ HB6.out | exact HCV.out _ HB5.out) (first | (go_at_call 37; (with_reducible refine (HUN.out _).mono ?_); rintro e w6 ⟨rfl, hb6⟩; have HB6 := Aside0.mk (bel_step HB5.out hb6); have H6 := Aside0.mk (H5.out.below hb6); clear hb6) | (go_at_call 16; (with_reducible refine (HSET.out _ H6.out).mono ?_); rintro e w7 ⟨rfl, h7, hf7⟩; have H7 := Aside0.mk h7; have HB7 := Aside0.mk (HB6.out.trans (hf7.below w.heap.size HB6.out.size (fun b hb => by omega))); clear h7 hf7))
          all_goals
            go_wp2
            go_roundw
          case rel => exact ⟨n, a + 9 + m, L2, by rw [show (E : Int) + 8 = ((a + 9 + m : Nat) : Int) by have := HE.out; omega], by omega, by omega, ⟨HDN.out⟩, H7, HB7⟩
          case measure => simp [nOf]; omega
        · rw [if_neg he0] at hd
          have HDN := Aside0.mk hd
          clear hst hse hu hg hrd hd h1 hE hm
          go_wp2_with (go_at_call 40; (with_reducible refine (HGET.out _ HB.out).mono ?_); rintro e w5 ⟨rfl, hb5⟩; have HB5 := Aside0.mk (bel_step HB.out hb5).drew; have H5 := Aside0.mk ((HH.out.below hb5).below (Below.refl w5.heap.size w5).drew); clear hb5)
          go_region_held (fun w' => (convert 46 9 (.slice A2 m (c - a1))).run Try.prog w' = .ok (.string (strOfNums (cut l a1 m))) w') (first | exact HCV.out _ HB7.out | exact HCV.out _ HB6.out | exact HCV.out _ HB5.out) (first | (go_at_call 37; (with_reducible refine (HUN.out _).mono ?_); rintro e w6 ⟨rfl, hb6⟩; have HB6 := Aside0.mk (bel_step HB5.out hb6); have H6 := Aside0.mk (H5.out.below hb6); clear hb6) | (go_at_call 16; (with_reducible refine (HSET.out _ H6.out).mono ?_); rintro e w7 ⟨rfl, h7, hf7⟩; have H7 := Aside0.mk h7; have HB7 := Aside0.mk (HB6.out.trans (hf7.below w.heap.size HB6.out.size (fun b hb => by omega))); clear h7 hf7))
          go_wp2
          go_ret2
          exact ⟨.inr ⟨by rw [HRD.out, ← HDN.out], rfl⟩, HB7.out⟩
      · rw [if_neg hin] at hd
        have HGET := Aside0.mk (fun (W : World) (hW : Below w.heap.size w W) => show Calls Try.prog 40 #[.slice A l.length c, .int .i64 (E : Int), .int .i64 8] W (fun e w' => e = .returned (.tuple #[.int .u64 g, .bool false]) ∧ Below W.heap.size W w') from by
          have := get_any A c l (E : Int) 8 W (HR.out.below hW) HBY.out
          rw [hg, show (rightB 8 && insideB (E : Int) 8 l.length) = false by simp [rightB, insideB]; omega] at this
          exact this)
        have HDN := Aside0.mk hd
        clear hd hg h1 hE hm
        subst hA
        go_wp2_with (go_at_call 40; (with_reducible refine (HGET.out _ HB.out).mono ?_); rintro e w5 ⟨rfl, hb5⟩; have HB5 := Aside0.mk (bel_step HB.out hb5); clear hb5)
        go_quiet (fail)
        go_wp2
        go_ret2
        exact ⟨.inr ⟨by rw [HRD.out, ← HDN.out], rfl⟩, pw_below_drewN HB5.out nq⟩
    · have hd := HD.out
      have hdl : D = some L := by
        cases n with
        | zero => rw [decF] at hd; exact hd.symm
        | succ n => rw [decF, if_neg hlt] at hd; exact hd.symm
      have HRL := Aside0.mk (show Rs = if encR L = l then some L else none by rw [HRD.out, hdl])
      clear hd hdl
      obtain ⟨bq, hbq⟩ : ∃ bq, decide (encR L = l) = bq := ⟨_, rfl⟩
      have HEQ := Aside0.mk hbq
      clear hbq
      cases bq with
      | true =>
        go_wp2_with (first | (go_at_call 21; (with_reducible refine (renc_calls wr p s L HH.out).mono ?_); rintro e w5 ⟨u5, rfl, hr5, hb5⟩; obtain ⟨A5, c5, rfl, _, hC5⟩ := Kd.R_reads hr5; have HC5 : Aside0 (ReadsInt w5 .u8 A5 (encR L).length (encR L)) := ⟨Kd.reads_of_C (d := (0 : Int)) hC5⟩; have H5 := Aside0.mk (HH.out.below hb5); have HB5 := Aside0.mk (bel_step HB.out hb5); clear hr5 hb5 hC5) | (go_at_call 41; (with_reducible refine (eq_calls A5 A c5 c (encR L) l w5 HC5.out (HR.out.below HB5.out)).mono ?_); rw [HEQ.out]; rintro e w6 ⟨rfl, hb6⟩; have H6 := Aside0.mk (H5.out.below hb6); have HB6 := Aside0.mk (bel_step HB5.out hb6); clear hb6))
        go_ret2
        exact ⟨.inl ⟨p, s, L, by rw [HRL.out, if_pos (of_decide_eq_true HEQ.out)], rfl, H6.out⟩, HB6.out⟩
      | false =>
        go_wp2_with (first | (go_at_call 21; (with_reducible refine (renc_calls wr p s L HH.out).mono ?_); rintro e w5 ⟨u5, rfl, hr5, hb5⟩; obtain ⟨A5, c5, rfl, _, hC5⟩ := Kd.R_reads hr5; have HC5 : Aside0 (ReadsInt w5 .u8 A5 (encR L).length (encR L)) := ⟨Kd.reads_of_C (d := (0 : Int)) hC5⟩; have H5 := Aside0.mk (HH.out.below hb5); have HB5 := Aside0.mk (bel_step HB.out hb5); clear hr5 hb5 hC5) | (go_at_call 41; (with_reducible refine (eq_calls A5 A c5 c (encR L) l w5 HC5.out (HR.out.below HB5.out)).mono ?_); rw [HEQ.out]; rintro e w6 ⟨rfl, hb6⟩; have H6 := Aside0.mk (H5.out.below hb6); have HB6 := Aside0.mk (bel_step HB5.out hb6); clear hb6))
        go_ret2
        exact ⟨.inr ⟨by rw [HRL.out, if_neg (of_decide_eq_false HEQ.out)], rfl⟩, HB6.out⟩
end Go.Proofs.Ytliclajcifeneaa.Hand
namespace Go.Proofs.Ytliclajcifeneaa.Hand
set_option linter.unusedVariables false
set_option linter.unusedSimpArgs false
open Go.RowKit Go.Maps Go.Sort Go.Shelf Go.Proofs.YtliclajcifeneaaW.PrintWords Go.Proofs.Ytliclajcifeneaa.PHandRR
attribute [local go_sem high] eqA29
set_option linter.unusedVariables false
set_option linter.unusedSimpArgs false
theorem leB_one {n : Int} (h0 : 0 ≤ n) (h1 : n < 256) : leB n 1 = [n] := by
  rw [leB, leB, List.nil_append, show (2 : Int) ^ (8 * 0) = 1 from rfl, Int.ediv_one, Int.emod_eq_of_lt h0 h1]
theorem rput_1 (W : World) {x : Int} (h0 : 0 ≤ x) (h1 : x < 256) : Calls Try.prog 44 #[.int .i64 1, .int .u64 x] W fun e w' => e = .returned (.string (strOfNums [x])) ∧ Below W.heap.size W w' := by
  have := rPut_yes 1 x W (by simp only [rfitsB, Bool.and_eq_true, decide_eq_true_eq]; exact ⟨by decide, by rw [show topN 1 = 255 from rfl]; omega⟩) h0
  rw [show (1 : Int).toNat = 1 from rfl, leB_one h0 h1] at this
  exact this
theorem rput_8 (W : World) {x : Int} (h0 : 0 ≤ x) (h1 : x < 4294967296) : Calls Try.prog 44 #[.int .i64 8, .int .u64 x] W fun e w' => e = .returned (.string (strOfNums (leB x 8))) ∧ Below W.heap.size W w' :=
  rPut_yes 8 x W (by simp only [rfitsB, Bool.and_eq_true, decide_eq_true_eq]; exact ⟨by decide, by rw [show topN 8 = 18446744073709551615 from rfl]; omega⟩) h0
theorem rpack_1 (W : World) (h : Int × Int) : Calls Try.prog 45 #[.agg #[.int .i64 h.1, .int .i64 h.2]] W fun e w' => e = .returned (.int .u64 (pk h)) ∧ Below W.heap.size W w' := rPack_calls h.1 h.2 W
theorem str_back (x : Nm) : strOfNums (bytesOf (nmB x)) = nmB x := by
  rw [← nm_of (strOfNums (bytesOf (nmB x))), nmI_data, nmI_back]
theorem bel_cellR {w w1 : World} (h : Below w.heap.size w w1) {a : Addr} {v : Value} (hc : w.cell? a = some v) : w1.cell? a = some v := (h.cell (World.block_lt_of_cell? _ _ hc)).trans hc
set_option maxRecDepth 100000 in
set_option maxHeartbeats 4000000 in
theorem rrenc_calls (w : World) (A : Option Addr) (c : Nat) (L : List Rt) (h : Kd.C k66 w A L.length (toS L)) (hg : GoodR L) :
    Calls Try.prog 25 #[.slice A L.length c] w fun e w' => e = .returned (.string (strOfNums (encR L))) ∧ Below w.heap.size w w' := by
  have hu29 := Try.underlying29
  have hu66 := Try.underlying66
  have hfew := hg.few
  have HC := Aside0.mk h
  have HG := Aside0.mk hg
  have eL : IntKind.u64.wrap (L.length : Int) = (L.length : Int) := u64_wrap_of (by omega) (by omega)
  have HPL := Aside0.mk (fun (W : World) => rput_1 W (x := (L.length : Int)) (by omega) (by omega))
  clear h hg
  go_enter Try.func25, Try.ntmps25
  go_wp2_with (go_at_call 44; (with_reducible refine (HPL.out _).mono ?_); rintro e w2 ⟨rfl, hb2⟩; have HB2 := Aside0.mk hb2; clear hb2)
  go_loopw [3, 4] (fun us vi wr => ∃ (t : Nat), us = .string (strOfNums ([(L.length : Int)] ++ encRs (L.take t))) ∧ vi = .int .i64 t ∧ t ≤ L.length ∧ Aside0 (Below w.heap.size w wr)) (fun _ vi _ => L.length - (nOf vi).toNat)
  case atStart => exact ⟨0, by simp [encRs], rfl, Nat.zero_le _, HB2⟩
  case round =>
    obtain ⟨t, rfl, rfl, ht, HB⟩ := hrel
    clear HB2
    by_cases hlt : t < L.length
    · obtain ⟨q, hq⟩ : ∃ q, L[t]? = some q := ⟨_, List.getElem?_eq_getElem hlt⟩
      have hqm := List.mem_of_getElem? hq
      have hnl := name_len HG.out hqm
      obtain ⟨ad, hA, x0, x1, x2⟩ := at_T66 (Kd.C_below HC.out HB.out) (t : Int) (by omega) (by omega)
      rw [show rd_T66 (toS L) (t : Int) = toS1 q by simp [rd_T66, toS, List.getD_eq_getElem?_getD, hq], Int.toNat_natCast] at x0 x1 x2
      subst hA
      have HTK := Aside0.mk (encRs_take hq)
      have hel : (encRs (L.take t)).length ≤ 400 := by
        have := encRs_len HG.out (L.take t) (fun q h => List.mem_of_mem_take h)
        rw [List.length_take] at this
        omega
      have HPK := Aside0.mk (fun (W : World) => rpack_1 W q.2)
      have HP1 := Aside0.mk (fun (W : World) => rput_1 W (x := (q.1.length : Int)) (by omega) (by omega))
      obtain ⟨p0, p1⟩ := pk_range q.2
      have HP8 := Aside0.mk (fun (W : World) => rput_8 W (x := pk q.2) p0 p1)
      have eN : IntKind.u64.wrap (q.1.length : Int) = (q.1.length : Int) := u64_wrap_of (by omega) (by omega)
      simp only [toS1] at x0 x1 x2
      obtain ⟨sz, hsz⟩ : ∃ sz, strOfNums ([(L.length : Int)] ++ encRs (L.take t)) = sz := ⟨_, rfl⟩
      have HSZ := Aside0.mk hsz
      have hss : sz.size ≤ 401 := by rw [← hsz, strOfNums_size]; simp; omega
      rw [hsz]
      have HSS := Aside0.mk (fun (w' : World) (hW : Below wr.heap.size wr w') => show w'.cell? (ad.add (t * 3)) = some (.string (nmB q.1)) ∧ w'.cell? ⟨(ad.add (t * 3)).block, (ad.add (t * 3)).off + 1, none⟩ = some (.int .i64 q.2.1) ∧ w'.cell? ⟨(ad.add (t * 3)).block, (ad.add (t * 3)).off + 2, none⟩ = some (.int .i64 q.2.2) from ⟨bel_cellR hW x0, bel_cellR hW x1, bel_cellR hW x2⟩)
      have HK0 := Aside0.mk (Below.refl wr.heap.size wr).drew
      have f1 : (9223372036854775807 < sz.size + (strOfNums [(q.1.length : Int)]).size) = False := eq_false (by rw [strOfNums_size]; simp; omega)
      have z1 : (strOfNums [(q.1.length : Int)]).size = 1 := by rw [strOfNums_size]; rfl
      have z8 : (strOfNums (leB (pk q.2) 8)).size = 8 := by rw [strOfNums_size, leB_length]
      have f2 : (9223372036854775807 < sz.size + (strOfNums [(q.1.length : Int)]).size + q.1.length) = False := eq_false (by omega)
      have f2b : (9223372036854775807 < (sz ++ strOfNums [(q.1.length : Int)]).size + q.1.length) = False := eq_false (by rw [ByteArray.size_append]; omega)
      have f3 : (9223372036854775807 < sz.size + (strOfNums [(q.1.length : Int)]).size + q.1.length + (strOfNums (leB (pk q.2) 8)).size) = False := eq_false (by omega)
      have f3b : (9223372036854775807 < (sz ++ strOfNums [(q.1.length : Int)] ++ nmB q.1).size + (strOfNums (leB (pk q.2) 8)).size) = False := eq_false (by have := nmB_size q.1; rw [ByteArray.size_append, ByteArray.size_append]; omega)
      clear z1 z8
      clear hq hqm hsz hel
      go_wp2
      go_region_held (fun w' => w'.cell? (ad.add (t * 3)) = some (.string (nmB q.1)) ∧ w'.cell? ⟨(ad.add (t * 3)).block, (ad.add (t * 3)).off + 1, none⟩ = some (.int .i64 q.2.1) ∧ w'.cell? ⟨(ad.add (t * 3)).block, (ad.add (t * 3)).off + 2, none⟩ = some (.int .i64 q.2.2)) (first | exact HSS.out _ HK8.out | exact HSS.out _ HK7.out | exact HSS.out _ HK6.out | exact HSS.out _ HK0.out) (first | (go_at_call 44; (with_reducible refine (HP1.out _).mono ?_); rintro e w6 ⟨rfl, hb6⟩; have HK6 := Aside0.mk (bel_step HK0.out hb6); clear hb6) | (go_at_call 45; (with_reducible refine (HPK.out _).mono ?_); rintro e w7 ⟨rfl, hb7⟩; have HK7 := Aside0.mk (bel_step HK6.out hb7); clear hb7) | (go_at_call 44; (with_reducible refine (HP8.out _).mono ?_); rintro e w8 ⟨rfl, hb8⟩; have HK8 := Aside0.mk (bel_step HK7.out hb8); clear hb8))
      go_wp2
      go_roundw
      case rel => exact ⟨t + 1, congrArg Value.string (by rw [← HSZ.out, ← HTK.out, ← str_back q.1, str_app, str_app, str_app, encR1]; simp only [List.append_assoc]), by go_num, by omega, ⟨bel_step HB.out HK8.out⟩⟩
      case measure => simp [nOf]; omega
    · go_wp2
      go_ret
      exact ⟨by rw [List.take_of_length_le (by omega)]; rfl, HB.out⟩
end Go.Proofs.Ytliclajcifeneaa.Hand
namespace Go.Proofs.Ytliclajcifeneaa.Hand
set_option linter.unusedVariables false
set_option linter.unusedSimpArgs false
open Go.RowKit Go.Maps Go.Sort Go.Shelf Go.Proofs.YtliclajcifeneaaW.PrintWords Go.Proofs.Ytliclajcifeneaa.PHandRR
attribute [local go_sem high] eqA29
set_option linter.unusedVariables false
set_option linter.unusedSimpArgs false
theorem str_byte {l : List Int} (hb : Bys l) {a : Nat} (h : a < (strOfNums l).size) : (((strOfNums l)[a]'h).toNat : Int) = l.getD a 0 := by
  have hl : a < l.length := by rwa [strOfNums_size] at h
  obtain ⟨b0, b1⟩ := byte_range hb hl
  have e1 : (strOfNums l).data.toList[a]? = some (UInt8.ofNat (l.getD a 0).toNat) := by
    rw [nmI_data, nmI, List.getElem?_map, List.getElem?_eq_getElem hl, List.getD_eq_getElem?_getD, List.getElem?_eq_getElem hl]
    rfl
  have e2 : (strOfNums l)[a] = UInt8.ofNat (l.getD a 0).toNat := by
    show (strOfNums l).data[a] = _
    rw [← Array.getElem_toList]
    exact Option.some.inj ((List.getElem?_eq_getElem _).symm.trans e1)
  rw [e2]
  generalize l.getD a 0 = z at b0 b1
  rw [UInt8.toNat_ofNat']
  omega
theorem str_idx {l : List Int} (hb : Bys l) {a : Nat} (h : a < l.length) (W : World) : (Instr.index 9 (.string (strOfNums l)) (.int .i64 (a : Int))).run Try.prog W = .ok (.int .u8 (l.getD a 0)) W := by
  have hs : a < (strOfNums l).size := by rw [strOfNums_size]; exact h
  rw [run_index_string W 9 _ .i64 (a : Int) Try.underlying9, dif_pos ⟨by omega, by omega⟩, ← str_byte hb hs]
  rfl
theorem str_mid (l : List Int) (a n : Nat) (i j : Int) (hi : i = a) (hj : j = (a + n : Nat)) (h : a + n ≤ l.length) (W : World) : (Instr.slice 9 (.string (strOfNums l)) (some (.int .i64 i)) (some (.int .i64 j)) none).run Try.prog W = .ok (.string (strOfNums (cut l a n))) W := by
  subst hi hj
  rw [run_slice_string W 9 (strOfNums l) .i64 .i64 (a : Int) ((a + n : Nat) : Int) Try.underlying9 (by omega) (by omega) (by rw [strOfNums_size]; omega), str_extract, Int.toNat_natCast, Int.toNat_natCast, cut, List.drop_take, Nat.add_sub_cancel_left]
theorem nmI_nums {l : List Int} (hb : Bys l) : ((nmI l).map fun b => (b.toNat : Int)) = l := by
  rw [nmI, List.map_map]
  conv => rhs; rw [← List.map_id l]
  refine List.map_congr_left (fun z hz => ?_)
  have := hb z hz
  simp only [Function.comp_apply, id_eq]
  rw [UInt8.toNat_ofNat']
  omega
theorem nmI_inj {x y : List Int} (hx : Bys x) (hy : Bys y) (h : nmI x = nmI y) : x = y := by rw [← nmI_nums hx, h, nmI_nums hy]
/-- What the document's Decode leaves. -/
def RDecR (w : World) (R : Option (List Rt)) (e : Ending) (w' : World) : Prop :=
  ((∃ (v : Value) (L : List Rt), R = some L ∧ e = .returned (.tuple #[v, .bool true]) ∧ Kd.R k66 66 w' w.heap.size (fun _ => True) v (toS L)) ∨ (R = none ∧ ∃ v, e = .returned (.tuple #[v, .bool false]))) ∧ Below w.heap.size w w'
set_option maxRecDepth 100000 in
set_option maxHeartbeats 4000000 in
theorem rrdec_calls (w : World) (l : List Int) (hb : Bys l) (hl5 : l.length ≤ 5000) :
    Calls Try.prog 24 #[.string (strOfNums l)] w (RDecR w (decR l)) := by
  have hu29 := Try.underlying29
  have hu66 := Try.underlying66
  have HBY := Aside0.mk hb
  obtain ⟨D, hD⟩ : ∃ D, decF l.length l 1 [] = D := ⟨_, rfl⟩
  obtain ⟨Rs, hRs⟩ : ∃ Rs, Rs = decR l := ⟨_, rfl⟩
  rw [← hRs]
  rw [decR, hD] at hRs
  have HRD := Aside0.mk hRs
  have HD0 := Aside0.mk hD
  have HIDX := Aside0.mk (fun (a : Nat) (h : a < l.length) => str_idx hb h)
  have HMID := Aside0.mk (str_mid l)
  have HG := Aside0.mk (fun (a : Int) (W : World) => show Calls Try.prog 42 #[.string (strOfNums l), .int .i64 a, .int .i64 8] W (fun e w' => e = .returned (.tuple #[.int .u64 (gNum l a 8), .bool (rightB 8 && insideB a 8 l.length)]) ∧ W = w') from rGet_any l a 8 W hb (by omega))
  obtain ⟨st, hst⟩ : ∃ st, st = strOfNums l := ⟨_, rfl⟩
  have hsz : st.size = l.length := by rw [hst, strOfNums_size]
  have HST := Aside0.mk hst
  rw [← hst] at HG HIDX HMID ⊢
  clear hb hD hRs hst
  go_enter Try.func24, Try.ntmps24
  go_wp2
  go_loopw [4, 5] (fun uv vi wr => ∃ (n a : Nat) (L : List Rt) (uw : Value), uw = uv ∧ vi = .int .i64 a ∧ l.length ≤ a + n ∧ a ≤ l.length + 1 ∧ Aside0 (decF n l a L = D) ∧ Aside0 (GoodR L) ∧ Aside0 (Kd.R k66 66 wr w.heap.size (fun _ => True) uw (toS L)) ∧ Aside0 (Below w.heap.size w wr)) (fun _ vi _ => l.length - (nOf vi).toNat)
  case atStart => exact ⟨l.length, 1, [], _, rfl, rfl, by omega, by omega, HD0, ⟨GoodR.nil⟩, ⟨Kd.R_nil _ _ _ _ _⟩, ⟨Below.refl _ _⟩⟩
  case round =>
    obtain ⟨n, a, L, uw, rfl, rfl, hn, ha, HD, HGD, HH, HB⟩ := hrel
    clear HD0
    by_cases hlt : a < l.length
    · obtain ⟨n, rfl⟩ : ∃ k, n = k + 1 := ⟨n - 1, by omega⟩
      obtain ⟨b0, b1⟩ := byte_range HBY.out hlt
      obtain ⟨m, hm⟩ : ∃ m : Nat, l.getD a 0 = m := ⟨(l.getD a 0).toNat, by omega⟩
      have hix := HIDX.out a hlt
      rw [hm] at b0 b1 hix
      have hd := HD.out
      rw [decF, if_pos hlt, hm, Int.toNat_natCast] at hd
      obtain ⟨a1, h1⟩ : ∃ a1 : Nat, a1 = a + 1 := ⟨_, rfl⟩
      obtain ⟨E, hE⟩ : ∃ E : Nat, E = a1 + m := ⟨_, rfl⟩
      obtain ⟨F, hF⟩ : ∃ F : Nat, F = a + 9 := ⟨_, rfl⟩
      have hA1 : (a : Int) + 1 = (a1 : Int) := by omega
      have hA9 : (a : Int) + 9 = (F : Int) := by omega
      have hE1 : (a1 : Int) + (m : Int) = (E : Int) := by omega
      have hwm : IntKind.i64.wrap (m : Int) = (m : Int) := IntWalk.i64_in _ (by omega)
      have hwA : IntKind.i64.wrap (a1 : Int) = (a1 : Int) := IntWalk.i64_in _ (by omega)
      have hwE : IntKind.i64.wrap (E : Int) = (E : Int) := IntWalk.i64_in _ (by omega)
      have hwF : IntKind.i64.wrap (F : Int) = (F : Int) := IntWalk.i64_in _ (by omega)
      have hwG : IntKind.i64.wrap ((F : Int) + (m : Int)) = (F : Int) + (m : Int) := IntWalk.i64_in _ (by omega)
      have HE := Aside0.mk (show E = a + 1 + m by omega)
      have HF := Aside0.mk hF
      by_cases hin : a + 9 + m ≤ l.length
      · rw [if_pos hin] at hd
        have hgt : ((l.length : Int) < (F : Int) + (m : Int)) = False := eq_false (by omega)
        obtain ⟨g, hg⟩ : ∃ g, gNum l (E : Int) 8 = g := ⟨_, rfl⟩
        obtain ⟨g0, g1⟩ := gNum_range8 HBY.out (E : Int)
        rw [hg] at g0 g1
        have HGET := Aside0.mk (fun (W : World) => show Calls Try.prog 42 #[.string st, .int .i64 (E : Int), .int .i64 8] W (fun e w' => e = .returned (.tuple #[.int .u64 g, .bool true]) ∧ W = w') from by
          have := HG.out (E : Int) W
          rw [hg, show (rightB 8 && insideB (E : Int) 8 l.length) = true by simp [rightB, insideB]; omega] at this
          exact this)
        have hsl := HMID.out a1 m (a1 : Int) (E : Int) rfl (by omega) (by omega)
        obtain ⟨⟨ua, ub⟩, hu⟩ : ∃ u, unpackM g = u := ⟨_, rfl⟩
        have hst : stepR l a L = setE L (nmI (cut l a1 m)) (ua, ub) := by
          rw [stepR, hm, Int.toNat_natCast, ← h1, ← hE, hg, hu]
        have HUN := Aside0.mk (fun (W : World) => show Calls Try.prog 43 #[.int .u64 g] W (fun e w' => e = .returned (.agg #[.int .i64 ua, .int .i64 ub]) ∧ Below W.heap.size W w') from by
          have := rUnpack_calls g g0 g1 W
          rw [hu] at this
          exact this)
        obtain ⟨L2, e0, hse⟩ : ∃ L2 e0, stepR l a L = (L2, e0) := ⟨_, _, rfl⟩
        have HG2 : Aside0 (GoodR L2) := ⟨by have := goodE HGD.out (nmI (cut l a1 m)) (ua, ub); rw [← hst, hse] at this; exact this⟩
        have HSET := Aside0.mk (fun (W : World) (hB : Below w.heap.size w W) (hW : Kd.R k66 66 W w.heap.size (fun _ => True) uw (toS L)) => show Calls Try.prog 27 #[uw, .string (strOfNums (cut l a1 m)), .agg #[.int .i64 ua, .int .i64 ub]] W (fun e w' => ∃ v : Value, e = .returned (.tuple #[v, .int .i64 e0]) ∧ Kd.R k66 66 w' w.heap.size (fun _ => True) v (toS L2) ∧ Below w.heap.size w w') from by
          obtain ⟨k, hk⟩ := set_f L HGD.out (strOfNums (cut l a1 m)) (by rw [strOfNums_size, cut_length (by omega)]; omega) ua ub
          have h3 := hk k (Nat.le_refl _)
          rw [nmI_data, ← hst, hse] at h3
          refine (ecdysisref13_Set.calls k (fun _ => True) uw (toS L) (strOfNums (cut l a1 m)) ua ub (toS L2) e0 w W hB hW h3).mono ?_
          rintro e w' ⟨v, he, hr, hb, _⟩
          exact ⟨v, he, Kd.R_mono hr (fun _ _ => trivial), hb⟩)
        rw [hse] at hd
        by_cases he0 : e0 = 0
        · subst he0
          rw [if_pos rfl] at hd
          have HDN := Aside0.mk hd
          clear hst hse hu hg hd h1 hE hm hF
          go_wp2_with (go_at_call 42; (with_reducible refine (HGET.out _).mono ?_); rintro e w5 ⟨rfl, rfl⟩)
          go_region_held (fun _ => True) (exact trivial) (first | (go_at_call 43; (with_reducible refine (HUN.out _).mono ?_); rintro e w6 ⟨rfl, hb6⟩; have HB6 := Aside0.mk (bel_step HB.out.drew hb6); have H6 := Aside0.mk (Kd.R_below (Kd.R_below HH.out (Below.refl wr.heap.size wr).drew) hb6); clear hb6) | (go_at_call 27; (with_reducible refine (HSET.out _ HB6.out H6.out).mono ?_); rintro e w7 ⟨v7, rfl, h7, hb7⟩; have H7 := Aside0.mk h7; have HB7 := Aside0.mk hb7; clear h7 hb7))
          go_wp2
          go_roundw
          case rel => exact ⟨n, a + 9 + m, L2, _, rfl, by rw [show (F : Int) + (m : Int) = ((a + 9 + m : Nat) : Int) by have := HF.out; omega], by omega, by omega, HDN, HG2, H7, HB7⟩
          case measure => simp [nOf]; have := HF.out; omega
        · rw [if_neg he0] at hd
          have HDN := Aside0.mk hd
          clear hst hse hu hg hd h1 hE hm hF
          go_wp2_with (go_at_call 42; (with_reducible refine (HGET.out _).mono ?_); rintro e w5 ⟨rfl, rfl⟩)
          go_region_held (fun _ => True) (exact trivial) (first | (go_at_call 43; (with_reducible refine (HUN.out _).mono ?_); rintro e w6 ⟨rfl, hb6⟩; have HB6 := Aside0.mk (bel_step HB.out.drew hb6); have H6 := Aside0.mk (Kd.R_below (Kd.R_below HH.out (Below.refl wr.heap.size wr).drew) hb6); clear hb6) | (go_at_call 27; (with_reducible refine (HSET.out _ HB6.out H6.out).mono ?_); rintro e w7 ⟨v7, rfl, h7, hb7⟩; have H7 := Aside0.mk h7; have HB7 := Aside0.mk hb7; clear h7 hb7))
          go_wp2
          go_ret2
          exact ⟨.inr ⟨by rw [HRD.out, ← HDN.out], _, rfl⟩, HB7.out⟩
      · rw [if_neg hin] at hd
        have HDN := Aside0.mk hd
        have hgt : ((l.length : Int) < (F : Int) + (m : Int)) = True := eq_true (by omega)
        clear hd h1 hE hF hm
        go_wp2
        go_ret2
        exact ⟨.inr ⟨by rw [HRD.out, ← HDN.out], _, rfl⟩, HB.out⟩
    · have hd := HD.out
      have hdl : D = some L := by
        cases n with
        | zero => rw [decF] at hd; exact hd.symm
        | succ n => rw [decF, if_neg hlt] at hd; exact hd.symm
      have HRL := Aside0.mk (show Rs = if encR L = l then some L else none by rw [HRD.out, hdl])
      obtain ⟨A4, c4, rfl, _, hC4⟩ := Kd.R_reads HH.out
      have HENC := Aside0.mk (show Calls Try.prog 25 #[.slice A4 (toS L).length c4] wr (fun e w' => e = .returned (.string (strOfNums (encR L))) ∧ Below wr.heap.size wr w') from by rw [toS_len] at hC4 ⊢; exact rrenc_calls wr A4 c4 L hC4 HGD.out)
      clear hd hdl hC4
      by_cases heq : encR L = l
      · have HEQ := Aside0.mk heq
        clear heq
        go_wp2_with (go_at_call 25; (with_reducible refine HENC.out.mono ?_); rw [HEQ.out, ← HST.out]; rintro e w6 ⟨rfl, hb6⟩; have HR6 := Aside0.mk (Kd.R_below HH.out hb6); have HB6 := Aside0.mk (bel_step HB.out hb6); clear hb6)
        go_ret2
        exact ⟨.inl ⟨_, L, by rw [HRL.out, if_pos HEQ.out], rfl, HR6.out⟩, HB6.out⟩
      · have HEQ := Aside0.mk heq
        have hne : ((strOfNums (encR L)).toList == st.toList) = false := beq_false_of_ne (fun e => heq (nmI_inj (enc_bysr HGD.out) HBY.out (by rw [HST.out, ba_list, ba_list, nmI_data, nmI_data] at e; exact e)))
        clear heq
        go_wp2_with (go_at_call 25; (with_reducible refine HENC.out.mono ?_); rintro e w6 ⟨rfl, hb6⟩; have HB6 := Aside0.mk (bel_step HB.out hb6); clear hb6)
        go_ret2
        exact ⟨.inr ⟨by rw [HRL.out, if_neg HEQ.out], _, rfl⟩, HB6.out⟩
end Go.Proofs.Ytliclajcifeneaa.Hand
namespace Go.Proofs.Ytliclajcifeneaa.Hand
set_option linter.unusedVariables false
set_option linter.unusedSimpArgs false
open Go.RowKit Go.Maps Go.Sort Go.Shelf Go.Proofs.YtliclajcifeneaaW.PrintWords Go.Proofs.Ytliclajcifeneaa.PHandRR
attribute [local go_sem high] eqA29
set_option linter.unusedVariables false
set_option linter.unusedSimpArgs false
theorem rdec_some (w : World) (A : Option Addr) (c : Nat) (l : List Int) (hr : ReadsInt w .u8 A l.length l) (hb : Bys l) (hc : l.length ≤ c) (hl5 : l.length ≤ 5000) {L : List Rt} (h : decR l = some L) :
    Calls Try.prog 23 #[.slice A l.length c] w fun e w' => ∃ p s, e = .returned (.tuple #[.pointer (some ⟨p, 0, none⟩), .int .i64 0]) ∧ HasR w' p s L ∧ Below w.heap.size w w' := by
  refine (rdec_calls w A c l hr hb hc hl5).mono ?_
  rintro e w' ⟨⟨p, s, L', e1, rfl, hh⟩ | ⟨e1, _⟩, hb⟩
  · rw [h] at e1
    cases e1
    exact ⟨p, s, rfl, hh, hb⟩
  · rw [h] at e1; cases e1
theorem rdec_none (w : World) (A : Option Addr) (c : Nat) (l : List Int) (hr : ReadsInt w .u8 A l.length l) (hb : Bys l) (hc : l.length ≤ c) (hl5 : l.length ≤ 5000) (h : decR l = none) :
    Calls Try.prog 23 #[.slice A l.length c] w fun e w' => e = .returned (.tuple #[.pointer none, .int .i64 1]) ∧ Below w.heap.size w w' := by
  refine (rdec_calls w A c l hr hb hc hl5).mono ?_
  rintro e w' ⟨⟨p, s, L', e1, rfl, hh⟩ | ⟨e1, rfl⟩, hb⟩
  · rw [h] at e1; cases e1
  · exact ⟨rfl, hb⟩
theorem rrdec_some (w : World) (l : List Int) (hb : Bys l) (hl5 : l.length ≤ 5000) {L : List Rt} (h : decR l = some L) :
    Calls Try.prog 24 #[.string (strOfNums l)] w fun e w' => ∃ A c, e = .returned (.tuple #[.slice A L.length c, .bool true]) ∧ Kd.C k66 w' A L.length (toS L) ∧ L.length ≤ c ∧ Below w.heap.size w w' := by
  refine (rrdec_calls w l hb hl5).mono ?_
  rintro e w' ⟨⟨v, L', e1, rfl, hr⟩ | ⟨e1, _⟩, hb⟩
  · rw [h] at e1
    cases e1
    obtain ⟨A, c, rfl, hc, hC⟩ := Kd.R_reads hr
    rw [toS_len] at hc hC ⊢
    exact ⟨A, c, rfl, hC, hc, hb⟩
  · rw [h] at e1; cases e1
theorem rrdec_none (w : World) (l : List Int) (hb : Bys l) (hl5 : l.length ≤ 5000) (h : decR l = none) :
    Calls Try.prog 24 #[.string (strOfNums l)] w fun e w' => ∃ v, e = .returned (.tuple #[v, .bool false]) ∧ Below w.heap.size w w' := by
  refine (rrdec_calls w l hb hl5).mono ?_
  rintro e w' ⟨⟨v, L', e1, rfl, hr⟩ | ⟨e1, v, rfl⟩, hb⟩
  · rw [h] at e1; cases e1
  · exact ⟨v, rfl, hb⟩
theorem renc_row (w : World) (p s : Nat) (L : List Rt) (h : HasR w p s L) {E : List Int} (hE : encR L = E) :
    Calls Try.prog 21 #[.pointer (some ⟨p, 0, none⟩)] w fun e w' => ∃ A c, e = .returned (.slice A E.length c) ∧ ReadsInt w' .u8 A E.length E ∧ E.length ≤ c ∧ Below w.heap.size w w' := by
  refine (renc_calls w p s L h).mono ?_
  rw [hE]
  rintro e w' ⟨v, rfl, hr, hb⟩
  obtain ⟨A, c, rfl, hc, hC⟩ := Kd.R_reads hr
  exact ⟨A, c, rfl, Kd.reads_of_C (d := (0 : Int)) hC, hc, hb⟩
set_option maxRecDepth 100000 in
set_option maxHeartbeats 4000000 in
theorem rootsBytes_walk (B : Option Addr) (d : Nat) (os : List S31) (A : Option Addr) (c : Nat) (l : List Int) (w : World) (ho : OpsR w B d os) (hr : ReadsInt w .u8 A l.length l) (hby : Bys l) (hll : l.length ≤ 140737488351232) (hc : l.length ≤ c) :
    Calls Try.prog 9 #[.slice B os.length d, .slice A l.length c] w fun e w' => e = .returned (.bool true) ∧ Below w.heap.size w w' := by
  have hu29 := Try.underlying29
  have hu31 := Try.underlying31
  have HO := Aside0.mk ho
  have hln := ho.len
  cases hf : fewR os with
  | false =>
    have HF := Aside0.mk hf
    clear ho hf hr hby hc
    go_enter Try.func9, Try.ntmps9
    go_wp2_with (first | (go_at_call 10; (with_reducible refine (rnew_calls w).mono ?_); rintro e w1 ⟨p, s, rfl, h1, hb1, hp1, hs1⟩; have H1 := Aside0.mk h1; have HB1 := Aside0.mk hb1; clear h1 hb1) | (go_at_call 11; (with_reducible refine (few_row _ B d os (HO.out.below HB1.out)).mono ?_); rw [HF.out]; rintro e wF ⟨rfl, hbF⟩; have HBF := Aside0.mk (bel_step HB1.out hbF); have HFF := Aside0.mk hbF; clear hbF) | (go_at_call 12; (with_reducible refine (aliveR_calls _).mono ?_); rintro e wA ⟨rfl, hbA⟩; have HBA := Aside0.mk (bel_step HBF.out hbA); clear hbA))
    go_ret
    exact ⟨rfl, HBA.out⟩
  | true =>
    have HF := Aside0.mk hf
    by_cases hbig : 2000 < l.length
    · have hbg : ((l.length : Int) > 2000) := by omega
      clear ho hf hr hby hc
      go_enter Try.func9, Try.ntmps9
      go_wp2_with (first | (go_at_call 10; (with_reducible refine (rnew_calls w).mono ?_); rintro e w1 ⟨p, s, rfl, h1, hb1, hp1, hs1⟩; have H1 := Aside0.mk h1; have HB1 := Aside0.mk hb1; clear h1 hb1) | (go_at_call 11; (with_reducible refine (few_row _ B d os (HO.out.below HB1.out)).mono ?_); rw [HF.out]; rintro e wF ⟨rfl, hbF⟩; have HBF := Aside0.mk (bel_step HB1.out hbF); have HFF := Aside0.mk hbF; clear hbF) | (go_at_call 12; (with_reducible refine (aliveR_calls _).mono ?_); rintro e wA ⟨rfl, hbA⟩; have HBA := Aside0.mk (bel_step HBF.out hbA); clear hbA))
      go_ret
      exact ⟨rfl, HBA.out⟩
    · have hbg : ¬ ((l.length : Int) > 2000) := by omega
      obtain ⟨hl100, hsz⟩ := fewR_yes hf
      have HSZ := Aside0.mk hsz
      have HRB := Aside0.mk hr
      have HBY := Aside0.mk hby
      have HL5 := Aside0.mk (show l.length ≤ 5000 by omega)
      have HCC := Aside0.mk hc
      clear ho hf hr hby hc hsz hbig
      cases hd : decR l with
      | none =>
        have HDL := Aside0.mk hd
        clear hd
        go_enter Try.func9, Try.ntmps9
        go_wp2_with (first | (go_at_call 10; (with_reducible refine (rnew_calls w).mono ?_); rintro e w1 ⟨p, s, rfl, h1, hb1, hp1, hs1⟩; have H1 := Aside0.mk h1; have HB1 := Aside0.mk hb1; clear h1 hb1) | (go_at_call 11; (with_reducible refine (few_row _ B d os (HO.out.below HB1.out)).mono ?_); rw [HF.out]; rintro e wF ⟨rfl, hbF⟩; have HBF := Aside0.mk (bel_step HB1.out hbF); have HFF := Aside0.mk hbF; clear hbF) | (go_at_call 23; (with_reducible refine (rdec_none _ A c l (HRB.out.below HBF.out) HBY.out HCC.out HL5.out HDL.out).mono ?_); rintro e w2 ⟨rfl, hb2⟩; have HBE := Aside0.mk (bel_step HBF.out hb2); have HHE := Aside0.mk ((H1.out.below HFF.out).below hb2); have hconv := conv_reads (c := c) (HRB.out.below HBE.out); clear hb2) | (go_at_call 24; (with_reducible refine (rrdec_none _ l HBY.out HL5.out HDL.out).mono ?_); rintro e w3 ⟨v3, rfl, hb3⟩; have HBG := Aside0.mk (bel_step HBE.out hb3); have HHF := Aside0.mk (HHE.out.below hb3); clear hb3 hconv))
        clear H1 HB1 HFF HBF HHE HBE
        go_loopw [10, 78] (fun ul vi wr => ∃ (t : Nat) (L : List Rt) (uw : Value), uw = ul ∧ vi = .int .i64 t ∧ t ≤ os.length ∧ Aside0 (HasR wr p s L) ∧ Aside0 (RefR wr w.heap.size p s uw L) ∧ Aside0 (Below w.heap.size w wr)) (fun _ vi _ => os.length - (nOf vi).toNat)
        case atStart => exact ⟨0, [], _, rfl, rfl, Nat.zero_le _, HHF, ⟨RefR.nil _ _ _ _⟩, HBG⟩
        case round =>
          obtain ⟨t, L, uw, rfl, rfl, ht, HH, HR, HB⟩ := hrel
          clear HHF HBG
          by_cases hlt : t < os.length
          · obtain ⟨⟨k, x, ⟨a, b⟩⟩, hq⟩ : ∃ q, os[t]? = some q := ⟨_, List.getElem?_eq_getElem hlt⟩
            have HX : Aside0 (x.size ≤ 50000) := ⟨by have := HSZ.out _ (List.mem_of_getElem? hq); simp only at this; omega⟩
            obtain ⟨L2, ⟨ha, hb⟩, e0, hr⟩ : ∃ L2 h e0, doE L k x.data.toList (a, b) = (L2, h, e0) := ⟨_, _, _, rfl⟩
            have HDO := Aside0.mk hr
            obtain ⟨ad, hA, x0, x1, x2, x3⟩ := op_at (HO.out.below HB.out) hq
            subst hA
            clear hq hr
            go_wp2_with (first | (go_at_call 13; (with_reducible refine (do_row (below_alloc HB.out _) (HR.out.old (below_alloc (Below.refl _ _) _)) HH.out.good k x HX.out a b HDO.out).mono ?_); rintro e w2 ⟨v2, rfl, hr2, hb2, hk2⟩; have hop := (hk2.2 wr.heap.size (by simp) (fun e => Nat.lt_irrefl _ e.2.2)).trans (heap_alloc_new wr _); have H2 := Aside0.mk ((HH.out.below (below_alloc (Below.refl _ _) _)).kept hk2 (fun e => e.1 rfl) (fun e => e.2.1 rfl)); have HW2 := Aside0.mk (below_alloc (Below.refl w2.heap.size w2) (.cells #[.int .i64 ha, .int .i64 hb] 29)); have y0 := cell_alloc (o := .cells #[.int .i64 ha, .int .i64 hb] 29) (blk_cell hop (i := 0) rfl); have y1 := cell_alloc (o := .cells #[.int .i64 ha, .int .i64 hb] 29) (blk_cell hop (i := 1) rfl); have y2 := cell_alloc (o := .cells #[.int .i64 ha, .int .i64 hb] 29) (blk_cell hop (i := 2) rfl); have y3 := cell_alloc (o := .cells #[.int .i64 ha, .int .i64 hb] 29) (blk_cell hop (i := 3) rfl); obtain ⟨A2, c2, hv2, _, _⟩ := Kd.R_reads hr2; rw [toS_len] at hv2; subst hv2; have HR2 := Aside0.mk hr2; have HB2 := Aside0.mk hb2; have HLT := Aside0.mk hk2.1; clear hr2 hb2 hk2 hop x0 x1 x2 x3) | (go_at_call 14; (with_reducible refine (does_row _ p s L (H2.out.below HW2.out) k x HX.out a b HDO.out).mono ?_); rintro e w4 ⟨rfl, h4, hf4⟩; have HR5 := Aside0.mk (RefR.of (Kd.R_below HR2.out HW2.out) (fun e => by have h1 := HH.out.p_lt; rcases e with e | e; exact e.1 rfl; simp at e; omega) (fun e => by have h1 := HH.out.s_lt; rcases e with e | e; exact e.2.1 rfl; simp at e; omega) hf4); have H5 := Aside0.mk h4; have HB5 := Aside0.mk ((below_alloc HB2.out (.cells #[.int .i64 ha, .int .i64 hb] 29)).trans (hf4.below w.heap.size (below_alloc HB2.out (.cells #[.int .i64 ha, .int .i64 hb] 29)).size (fun b hb => by omega))); clear h4 hf4 y0 y1 y2 y3))
            go_roundw
            case rel => exact ⟨t + 1, L2, _, rfl, by go_num, by omega, H5, HR5, HB5⟩
            case measure => simp [nOf]; omega
          · obtain ⟨A6, c6, hv6, _, _⟩ := Kd.R_reads HR.out
            rw [toS_len] at hv6
            subst hv6
            obtain ⟨E, hE⟩ : ∃ E, encR L = E := ⟨_, rfl⟩
            have HE := Aside0.mk hE
            have HDE := Aside0.mk (show decR E = some L by rw [← hE]; exact decR_enc HH.out.good)
            have HEB := Aside0.mk (show Bys E by rw [← hE]; exact enc_bysr HH.out.good)
            have HE5 := Aside0.mk (show E.length ≤ 5000 by rw [← hE]; have := encR_len HH.out.good; omega)
            have HRENC := Aside0.mk (fun (W : World) (hW : Kd.C k66 W A6 L.length (toS L)) => show Calls Try.prog 25 #[.slice A6 L.length c6] W (fun e w' => e = .returned (.string (strOfNums E)) ∧ Below W.heap.size W w') from by rw [← hE]; exact rrenc_calls W A6 c6 L hW HH.out.good)
            clear hE
            go_wp2_with (first | (go_at_call 21; (with_reducible refine (renc_row _ p s L HH.out HE.out).mono ?_); rintro e w7 ⟨A7, c7, rfl, hr7, hc7, hb7⟩; have HD7 := Aside0.mk hr7; have HC7 := Aside0.mk hc7; have H7 := Aside0.mk (HH.out.below hb7); have HR7 := Aside0.mk (HR.out.below hb7); have HB7 := Aside0.mk (bel_step HB.out hb7); clear hr7 hc7 hb7) | (go_at_call 23; (with_reducible refine (rdec_some _ A7 c7 E HD7.out HEB.out HC7.out HE5.out HDE.out).mono ?_); rintro e w8 ⟨p8, s8, rfl, hx8, hb8⟩; have HX8 := Aside0.mk hx8; have H8 := Aside0.mk (H7.out.below hb8); have HR8 := Aside0.mk (HR7.out.below hb8); have HB8 := Aside0.mk (bel_step HB7.out hb8); clear hx8 hb8))
            go_region_held (fun _ => True) (exact trivial) (first | (go_at_call 12; (with_reducible refine (aliveR_calls _).mono ?_); rintro e w9 ⟨rfl, hb9⟩; have HT9 := Aside0.mk (bel_step (Below.refl w8.heap.size w8).drew hb9); clear hb9) | (go_at_call 21; (with_reducible refine (renc_row _ p s L (H8.out.below HT9.out) HE.out).mono ?_); rintro e w10 ⟨A10, c10, rfl, hr10, _, hb10⟩; have HT10 := Aside0.mk (bel_step HT9.out hb10); have hcv10 := conv_reads (c := c10) hr10; have HD10 := Aside0.mk hr10; clear hb10 hr10) | (go_at_call 25; (with_reducible refine (HRENC.out _ (HR8.out.below HT10.out).reads.1).mono ?_); rintro e w11 ⟨rfl, hb11⟩; have HT11 := Aside0.mk (bel_step HT10.out hb11); have hcv11 := conv_reads (c := c10) (HD10.out.below hb11); clear hb11) | (go_at_call 15; (with_reducible refine (stands_calls _ p8 s8 L (HX8.out.below HT11.out) A6 c6 (HR8.out.below HT11.out).reads.1 (HR8.out.below HT11.out).reads.2).mono ?_); rintro e w12 ⟨rfl, hb12⟩; have HT12 := Aside0.mk (bel_step HT11.out hb12); clear hb12))
            all_goals
              go_wp2
              go_ret
              exact ⟨rfl, bel_step HB8.out HT12.out⟩
      | some Ll =>
        have HDL := Aside0.mk hd
        clear hd
        go_enter Try.func9, Try.ntmps9
        go_wp2_with (first | (go_at_call 10; (with_reducible refine (rnew_calls w).mono ?_); rintro e w1 ⟨p, s, rfl, h1, hb1, hp1, hs1⟩; have H1 := Aside0.mk h1; have HB1 := Aside0.mk hb1; clear h1 hb1) | (go_at_call 11; (with_reducible refine (few_row _ B d os (HO.out.below HB1.out)).mono ?_); rw [HF.out]; rintro e wF ⟨rfl, hbF⟩; have HBF := Aside0.mk (bel_step HB1.out hbF); have HFF := Aside0.mk hbF; clear hbF) | (go_at_call 23; (with_reducible refine (rdec_some _ A c l (HRB.out.below HBF.out) HBY.out HCC.out HL5.out HDL.out).mono ?_); rintro e w2 ⟨p1, s1, rfl, hx2, hb2⟩; have HX2 := Aside0.mk hx2; have HB2 := Aside0.mk (bel_step HBF.out hb2); have HH2 := Aside0.mk ((H1.out.below HFF.out).below hb2); have hconv := conv_reads (c := c) (HRB.out.below HB2.out); clear hb2 hx2) | (go_at_call 24; (with_reducible refine (rrdec_some _ l HBY.out HL5.out HDL.out).mono ?_); rintro e w3 ⟨A3, c3, rfl, hC3, hc3, hb3⟩; have HB3 := Aside0.mk (bel_step HB2.out hb3); have HH3 := Aside0.mk (HH2.out.below hb3); have HX3 := Aside0.mk (HX2.out.below hb3); have HC3 := Aside0.mk hC3; have HL3 := Aside0.mk hc3; clear hb3 hC3 hc3 hconv) | (go_at_call 15; (with_reducible refine (stands_calls _ p1 s1 Ll HX3.out A3 c3 HC3.out HL3.out).mono ?_); rintro e w4 ⟨rfl, hb4⟩; have HBG := Aside0.mk (bel_step HB3.out hb4); have HHF := Aside0.mk (HH3.out.below hb4); clear hb4))
        clear H1 HB1 HFF HBF HH2 HB2 HX2 HH3 HB3 HX3 HC3 HL3
        go_loopw [10, 78] (fun ul vi wr => ∃ (t : Nat) (L : List Rt) (uw : Value), uw = ul ∧ vi = .int .i64 t ∧ t ≤ os.length ∧ Aside0 (HasR wr p s L) ∧ Aside0 (RefR wr w.heap.size p s uw L) ∧ Aside0 (Below w.heap.size w wr)) (fun _ vi _ => os.length - (nOf vi).toNat)
        case atStart => exact ⟨0, [], _, rfl, rfl, Nat.zero_le _, HHF, ⟨RefR.nil _ _ _ _⟩, HBG⟩
        case round =>
          obtain ⟨t, L, uw, rfl, rfl, ht, HH, HR, HB⟩ := hrel
          clear HHF HBG
          by_cases hlt : t < os.length
          · obtain ⟨⟨k, x, ⟨a, b⟩⟩, hq⟩ : ∃ q, os[t]? = some q := ⟨_, List.getElem?_eq_getElem hlt⟩
            have HX : Aside0 (x.size ≤ 50000) := ⟨by have := HSZ.out _ (List.mem_of_getElem? hq); simp only at this; omega⟩
            obtain ⟨L2, ⟨ha, hb⟩, e0, hr⟩ : ∃ L2 h e0, doE L k x.data.toList (a, b) = (L2, h, e0) := ⟨_, _, _, rfl⟩
            have HDO := Aside0.mk hr
            obtain ⟨ad, hA, x0, x1, x2, x3⟩ := op_at (HO.out.below HB.out) hq
            subst hA
            clear hq hr
            go_wp2_with (first | (go_at_call 13; (with_reducible refine (do_row (below_alloc HB.out _) (HR.out.old (below_alloc (Below.refl _ _) _)) HH.out.good k x HX.out a b HDO.out).mono ?_); rintro e w2 ⟨v2, rfl, hr2, hb2, hk2⟩; have hop := (hk2.2 wr.heap.size (by simp) (fun e => Nat.lt_irrefl _ e.2.2)).trans (heap_alloc_new wr _); have H2 := Aside0.mk ((HH.out.below (below_alloc (Below.refl _ _) _)).kept hk2 (fun e => e.1 rfl) (fun e => e.2.1 rfl)); have HW2 := Aside0.mk (below_alloc (Below.refl w2.heap.size w2) (.cells #[.int .i64 ha, .int .i64 hb] 29)); have y0 := cell_alloc (o := .cells #[.int .i64 ha, .int .i64 hb] 29) (blk_cell hop (i := 0) rfl); have y1 := cell_alloc (o := .cells #[.int .i64 ha, .int .i64 hb] 29) (blk_cell hop (i := 1) rfl); have y2 := cell_alloc (o := .cells #[.int .i64 ha, .int .i64 hb] 29) (blk_cell hop (i := 2) rfl); have y3 := cell_alloc (o := .cells #[.int .i64 ha, .int .i64 hb] 29) (blk_cell hop (i := 3) rfl); obtain ⟨A2, c2, hv2, _, _⟩ := Kd.R_reads hr2; rw [toS_len] at hv2; subst hv2; have HR2 := Aside0.mk hr2; have HB2 := Aside0.mk hb2; have HLT := Aside0.mk hk2.1; clear hr2 hb2 hk2 hop x0 x1 x2 x3) | (go_at_call 14; (with_reducible refine (does_row _ p s L (H2.out.below HW2.out) k x HX.out a b HDO.out).mono ?_); rintro e w4 ⟨rfl, h4, hf4⟩; have HR5 := Aside0.mk (RefR.of (Kd.R_below HR2.out HW2.out) (fun e => by have h1 := HH.out.p_lt; rcases e with e | e; exact e.1 rfl; simp at e; omega) (fun e => by have h1 := HH.out.s_lt; rcases e with e | e; exact e.2.1 rfl; simp at e; omega) hf4); have H5 := Aside0.mk h4; have HB5 := Aside0.mk ((below_alloc HB2.out (.cells #[.int .i64 ha, .int .i64 hb] 29)).trans (hf4.below w.heap.size (below_alloc HB2.out (.cells #[.int .i64 ha, .int .i64 hb] 29)).size (fun b hb => by omega))); clear h4 hf4 y0 y1 y2 y3))
            go_roundw
            case rel => exact ⟨t + 1, L2, _, rfl, by go_num, by omega, H5, HR5, HB5⟩
            case measure => simp [nOf]; omega
          · obtain ⟨A6, c6, hv6, _, _⟩ := Kd.R_reads HR.out
            rw [toS_len] at hv6
            subst hv6
            obtain ⟨E, hE⟩ : ∃ E, encR L = E := ⟨_, rfl⟩
            have HE := Aside0.mk hE
            have HDE := Aside0.mk (show decR E = some L by rw [← hE]; exact decR_enc HH.out.good)
            have HEB := Aside0.mk (show Bys E by rw [← hE]; exact enc_bysr HH.out.good)
            have HE5 := Aside0.mk (show E.length ≤ 5000 by rw [← hE]; have := encR_len HH.out.good; omega)
            have HRENC := Aside0.mk (fun (W : World) (hW : Kd.C k66 W A6 L.length (toS L)) => show Calls Try.prog 25 #[.slice A6 L.length c6] W (fun e w' => e = .returned (.string (strOfNums E)) ∧ Below W.heap.size W w') from by rw [← hE]; exact rrenc_calls W A6 c6 L hW HH.out.good)
            clear hE
            go_wp2_with (first | (go_at_call 21; (with_reducible refine (renc_row _ p s L HH.out HE.out).mono ?_); rintro e w7 ⟨A7, c7, rfl, hr7, hc7, hb7⟩; have HD7 := Aside0.mk hr7; have HC7 := Aside0.mk hc7; have H7 := Aside0.mk (HH.out.below hb7); have HR7 := Aside0.mk (HR.out.below hb7); have HB7 := Aside0.mk (bel_step HB.out hb7); clear hr7 hc7 hb7) | (go_at_call 23; (with_reducible refine (rdec_some _ A7 c7 E HD7.out HEB.out HC7.out HE5.out HDE.out).mono ?_); rintro e w8 ⟨p8, s8, rfl, hx8, hb8⟩; have HX8 := Aside0.mk hx8; have H8 := Aside0.mk (H7.out.below hb8); have HR8 := Aside0.mk (HR7.out.below hb8); have HB8 := Aside0.mk (bel_step HB7.out hb8); clear hx8 hb8))
            go_region_held (fun _ => True) (exact trivial) (first | (go_at_call 12; (with_reducible refine (aliveR_calls _).mono ?_); rintro e w9 ⟨rfl, hb9⟩; have HT9 := Aside0.mk (bel_step (Below.refl w8.heap.size w8).drew hb9); clear hb9) | (go_at_call 21; (with_reducible refine (renc_row _ p s L (H8.out.below HT9.out) HE.out).mono ?_); rintro e w10 ⟨A10, c10, rfl, hr10, _, hb10⟩; have HT10 := Aside0.mk (bel_step HT9.out hb10); have hcv10 := conv_reads (c := c10) hr10; have HD10 := Aside0.mk hr10; clear hb10 hr10) | (go_at_call 25; (with_reducible refine (HRENC.out _ (HR8.out.below HT10.out).reads.1).mono ?_); rintro e w11 ⟨rfl, hb11⟩; have HT11 := Aside0.mk (bel_step HT10.out hb11); have hcv11 := conv_reads (c := c10) (HD10.out.below hb11); clear hb11) | (go_at_call 15; (with_reducible refine (stands_calls _ p8 s8 L (HX8.out.below HT11.out) A6 c6 (HR8.out.below HT11.out).reads.1 (HR8.out.below HT11.out).reads.2).mono ?_); rintro e w12 ⟨rfl, hb12⟩; have HT12 := Aside0.mk (bel_step HT11.out hb12); clear hb12))
            all_goals
              go_wp2
              go_ret
              exact ⟨rfl, bel_step HB8.out HT12.out⟩
end Go.Proofs.Ytliclajcifeneaa.Hand
