/- What a claim needs of the walks and contracts, part T1. -/
import Derived.Sort.LotA
import Derived.Lib.OthersKept
import Derived.WalkKit
import Derived.BigCall
import Derived.StringKeys
import Derived.Test.YtliclajcifeneaaHandShelfR
import Derived.Sort.KeysCollected
import Derived.Lib.SlKeysI
import Derived.Deep.Strs
import Derived.SizedLaws
import Derived.Test.YtliclajcifeneaaHandKB1
import Derived.Test.YtliclajcifeneaaHandKS1
import Derived.Test.YtliclajcifeneaaHandKR1
namespace Go.Proofs.Ytliclajcifeneaa.Hand
set_option linter.unusedVariables false
set_option linter.unusedSimpArgs false
abbrev Nm := List UInt8
abbrev Rt := Nm × Int × Int
def lowC (c : UInt8) : Bool := decide (97 ≤ c.toNat ∧ c.toNat ≤ 122)
def nameC (c : UInt8) : Bool := lowC c || decide (48 ≤ c.toNat ∧ c.toNat ≤ 57) || decide (c.toNat = 95)
/-- What a name may be. -/
def okName : Nm → Bool
  | [] => false
  | c :: l => lowC c && l.all nameC && decide (l.length < 15)
def getR : List Rt → Nm → Option (Int × Int)
  | [], _ => none
  | q :: l, x => if q.1 = x then some q.2 else getR l x
def putR : List Rt → Nm → Int × Int → List Rt
  | [], x, h => [(x, h)]
  | q :: l, x, h => if x < q.1 then (x, h) :: q :: l else if q.1 = x then (x, h) :: l else q :: putR l x h
def delR : List Rt → Nm → List Rt
  | [], _ => []
  | q :: l, x => if q.1 = x then l else q :: delR l x
def SortedR (L : List Rt) : Prop := L.Pairwise (fun p q => p.1 < q.1)
def pk (h : Int × Int) : Int := packM h.1 h.2
structure GoodR (L : List Rt) : Prop where
  sorted : SortedR L
  few : L.length ≤ 16
  each : ∀ q ∈ L, okName q.1 = true ∧ pk q.2 ≠ 0
def setE (L : List Rt) (x : Nm) (h : Int × Int) : List Rt × Int :=
  if okName x = false ∨ pk h = 0 then (L, 1) else if (getR L x).isSome = false ∧ 16 ≤ L.length then (L, 131) else (putR L x h, 0)
def clearE (L : List Rt) (x : Nm) : List Rt × Int := if (getR L x).isSome = true then (delR L x, 0) else (L, 130)
def getE (L : List Rt) (x : Nm) : (Int × Int) × Int := match getR L x with | some h => (h, 0) | none => ((0, 0), 130)
/-- A call of a script. -/
def doE (L : List Rt) (k : Int) (x : Nm) (h : Int × Int) : List Rt × (Int × Int) × Int :=
  if k = 0 then ((setE L x h).1, (0, 0), (setE L x h).2) else if k = 1 then ((clearE L x).1, (0, 0), (clearE L x).2) else if k = 2 then (L, getE L x) else (L, (0, 0), 0)
theorem nm_irrefl (x : Nm) : ¬ x < x := List.lt_irrefl x
theorem nm_asymm {x y : Nm} (h : x < y) : ¬ y < x := List.lt_asymm h
theorem nm_tri {x y : Nm} (h1 : ¬ x < y) (h2 : x ≠ y) : y < x := by
  rcases List.le_iff_lt_or_eq.1 (List.not_lt.1 h1) with h | h
  · exact h
  · exact absurd h.symm h2
theorem nm_ne {x y : Nm} (h : x < y) : x ≠ y := fun e => nm_irrefl y (e ▸ h)
theorem getR_none {L : List Rt} {x : Nm} : getR L x = none ↔ ∀ q ∈ L, q.1 ≠ x := by
  induction L with
  | nil => simp [getR]
  | cons q l ih =>
    rw [getR]
    by_cases h : q.1 = x
    · simp [h]
    · simp only [if_neg h, ih, List.mem_cons, forall_eq_or_imp]
      exact ⟨fun h2 => ⟨h, h2⟩, fun h2 => h2.2⟩
theorem getR_mem {L : List Rt} {x : Nm} {h : Int × Int} (hg : getR L x = some h) : (x, h) ∈ L := by
  induction L with
  | nil => cases hg
  | cons q l ih =>
    rw [getR] at hg
    by_cases hq : q.1 = x
    · rw [if_pos hq] at hg
      cases hg
      subst hq
      exact List.mem_cons_self ..
    · rw [if_neg hq] at hg
      exact List.mem_cons_of_mem _ (ih hg)
theorem mem_getR {L : List Rt} (hs : SortedR L) {q : Rt} (hq : q ∈ L) : getR L q.1 = some q.2 := by
  induction L with
  | nil => cases hq
  | cons p l ih =>
    rw [SortedR, List.pairwise_cons] at hs
    rw [getR]
    rcases List.mem_cons.1 hq with rfl | h
    · rw [if_pos rfl]
    · rw [if_neg (nm_ne (hs.1 q h)), ih hs.2 h]
theorem getR_putR (L : List Rt) (x y : Nm) (h : Int × Int) : getR (putR L x h) y = if x = y then some h else getR L y := by
  induction L with
  | nil => rfl
  | cons q l ih =>
    rw [putR]
    by_cases h1 : x < q.1
    · rw [if_pos h1]; rfl
    · rw [if_neg h1]
      by_cases h2 : q.1 = x
      · rw [if_pos h2, getR, getR]
        by_cases h3 : x = y
        · simp [h3]
        · simp [h3, h2]
      · rw [if_neg h2, getR, getR, ih]
        by_cases h3 : q.1 = y
        · simp [h3, show x ≠ y from fun e => h2 (h3.trans e.symm)]
        · simp [h3]
theorem mem_putR {L : List Rt} {x : Nm} {h : Int × Int} {q : Rt} (hq : q ∈ putR L x h) : q = (x, h) ∨ q ∈ L := by
  induction L with
  | nil => exact Or.inl (by simpa [putR] using hq)
  | cons p l ih =>
    rw [putR] at hq
    split at hq
    · rcases List.mem_cons.1 hq with e | e
      · exact Or.inl e
      · exact Or.inr e
    · split at hq
      · rcases List.mem_cons.1 hq with e | e
        · exact Or.inl e
        · exact Or.inr (List.mem_cons_of_mem _ e)
      · rcases List.mem_cons.1 hq with e | e
        · exact Or.inr (e ▸ List.mem_cons_self ..)
        · rcases ih e with e | e
          · exact Or.inl e
          · exact Or.inr (List.mem_cons_of_mem _ e)
theorem sorted_putR {L : List Rt} (hs : SortedR L) (x : Nm) (h : Int × Int) : SortedR (putR L x h) := by
  induction L with
  | nil => exact List.pairwise_singleton _ _
  | cons q l ih =>
    have hs0 := hs
    rw [SortedR, List.pairwise_cons] at hs
    rw [putR]
    split
    · rename_i h1
      refine List.pairwise_cons.2 ⟨fun p hp => ?_, hs0⟩
      rcases List.mem_cons.1 hp with rfl | hp
      · exact h1
      · exact List.lt_trans h1 (hs.1 p hp)
    · rename_i h1
      split
      · rename_i h2
        exact List.pairwise_cons.2 ⟨fun p hp => by have := hs.1 p hp; rw [h2] at this; exact this, hs.2⟩
      · rename_i h2
        refine List.pairwise_cons.2 ⟨fun p hp => ?_, ih hs.2⟩
        rcases mem_putR hp with rfl | hp
        · exact nm_tri h1 (fun e => h2 e.symm)
        · exact hs.1 p hp
theorem len_putR (L : List Rt) (hs : SortedR L) (x : Nm) (h : Int × Int) : (putR L x h).length = if (getR L x).isSome = true then L.length else L.length + 1 := by
  induction L with
  | nil => rfl
  | cons q l ih =>
    rw [SortedR, List.pairwise_cons] at hs
    rw [putR, getR]
    split
    · rename_i h1
      have h2 : q.1 ≠ x := fun e => nm_irrefl x (by rw [e] at h1; exact h1)
      have h3 : getR l x = none := getR_none.2 (fun p hp e => nm_asymm h1 (by have := hs.1 p hp; rw [e] at this; exact this))
      simp [h2, h3]
    · split
      · rename_i h2; simp [h2]
      · rename_i h2
        simp only [if_neg h2, List.length_cons, ih hs.2]
        split <;> rfl
theorem getR_delR {L : List Rt} (hs : SortedR L) (x y : Nm) : getR (delR L x) y = if x = y then none else getR L y := by
  induction L with
  | nil => simp [delR, getR]
  | cons q l ih =>
    rw [SortedR, List.pairwise_cons] at hs
    rw [delR]
    by_cases h2 : q.1 = x
    · rw [if_pos h2, getR]
      by_cases h3 : x = y
      · subst h3
        rw [if_pos rfl]
        exact getR_none.2 (fun p hp e => nm_irrefl x (by have := hs.1 p hp; rw [e, h2] at this; exact this))
      · rw [if_neg h3, if_neg (by rw [h2]; exact h3)]
    · rw [if_neg h2, getR, getR, ih hs.2]
      by_cases h3 : q.1 = y
      · simp [h3, show x ≠ y from fun e => h2 (h3.trans e.symm)]
      · simp [h3]
theorem mem_delR {L : List Rt} {x : Nm} {q : Rt} (hq : q ∈ delR L x) : q ∈ L := by
  induction L with
  | nil => exact hq
  | cons p l ih =>
    rw [delR] at hq
    split at hq
    · exact List.mem_cons_of_mem _ hq
    · rcases List.mem_cons.1 hq with e | e
      · exact e ▸ List.mem_cons_self ..
      · exact List.mem_cons_of_mem _ (ih e)
theorem sorted_delR {L : List Rt} (hs : SortedR L) (x : Nm) : SortedR (delR L x) := by
  induction L with
  | nil => exact hs
  | cons p l ih =>
    rw [SortedR, List.pairwise_cons] at hs
    rw [delR]
    split
    · exact hs.2
    · exact List.pairwise_cons.2 ⟨fun q hq => hs.1 q (mem_delR hq), ih hs.2⟩
theorem len_delR (L : List Rt) (x : Nm) : (delR L x).length ≤ L.length := by
  induction L with
  | nil => exact Nat.le_refl _
  | cons p l ih =>
    rw [delR]
    split <;> simp <;> omega
theorem GoodR.nil : GoodR [] := ⟨List.Pairwise.nil, by simp, fun q hq => by cases hq⟩
theorem GoodR.put {L : List Rt} (hg : GoodR L) {x : Nm} {h : Int × Int} (h1 : okName x = true) (h2 : pk h ≠ 0) (h3 : (getR L x).isSome = true ∨ L.length < 16) : GoodR (putR L x h) := by
  refine ⟨sorted_putR hg.sorted x h, ?_, fun q hq => ?_⟩
  · rw [len_putR L hg.sorted]
    have := hg.few
    split
    · exact this
    · rename_i hn
      rcases h3 with h3 | h3
      · exact absurd h3 hn
      · omega
  · rcases mem_putR hq with rfl | hq
    · exact ⟨h1, h2⟩
    · exact hg.each q hq
theorem GoodR.del {L : List Rt} (hg : GoodR L) (x : Nm) : GoodR (delR L x) := ⟨sorted_delR hg.sorted x, Nat.le_trans (len_delR L x) hg.few, fun q hq => hg.each q (mem_delR hq)⟩
theorem GoodR.set {L : List Rt} (hg : GoodR L) (x : Nm) (h : Int × Int) : GoodR (setE L x h).1 := by
  unfold setE
  split
  · exact hg
  · rename_i h1
    split
    · exact hg
    · rename_i h2
      refine hg.put (by cases hx : okName x with | true => rfl | false => exact absurd (Or.inl hx) h1) (fun e => h1 (Or.inr e)) ?_
      cases hx : (getR L x).isSome with
      | true => exact Or.inl rfl
      | false => exact Or.inr (by by_cases h3 : 16 ≤ L.length; · exact absurd ⟨hx, h3⟩ h2
                                  · omega)
theorem GoodR.clear {L : List Rt} (hg : GoodR L) (x : Nm) : GoodR (clearE L x).1 := by
  unfold clearE
  split
  · exact hg.del x
  · exact hg
end Go.Proofs.Ytliclajcifeneaa.Hand
namespace Go.Proofs.Ytliclajcifeneaa.Hand
set_option linter.unusedVariables false
set_option linter.unusedSimpArgs false
open Go.RowKit Go.Proofs.YtliclajcifeneaaW.PrintWords
set_option linter.unusedVariables false
set_option linter.unusedSimpArgs false
theorem okName_of {l : Nm} (h0 : ∀ c, l[0]? = some c → lowC c = true) (h : ∀ (i : Nat) (c : UInt8), l[i]? = some c → nameC c = true) : okName l = (decide (1 ≤ l.length) && decide (l.length ≤ 15)) := by
  cases l with
  | nil => rfl
  | cons c l =>
    have h1 := h0 c rfl
    have h2 : l.all nameC = true := List.all_eq_true.2 (fun x hx => by
      obtain ⟨i, hi⟩ := List.mem_iff_getElem?.1 hx
      exact h (i + 1) x (by simpa using hi))
    simp only [okName, h1, h2, Bool.true_and, List.length_cons]
    by_cases h3 : l.length < 15
    · simp [h3]; omega
    · simp [h3]; omega
theorem okName_no {l : Nm} {i : Nat} {c : UInt8} (hc : l[i]? = some c) (h : nameC c = false ∨ i = 0 ∧ lowC c = false) : okName l = false := by
  cases l with
  | nil => rfl
  | cons a l =>
    cases i with
    | zero =>
      simp only [List.getElem?_cons_zero, Option.some.injEq] at hc
      subst hc
      have h1 : lowC a = false := by
        rcases h with h | h
        · simp only [nameC, Bool.or_eq_false_iff] at h; exact h.1.1
        · exact h.2
      simp [okName, h1]
    | succ i =>
      have h1 : nameC c = false := by
        rcases h with h | h
        · exact h
        · omega
      have h2 : l.all nameC = false := by
        rw [List.all_eq_false]
        exact ⟨c, List.mem_iff_getElem?.2 ⟨i, by simpa using hc⟩, by simp [h1]⟩
      simp [okName, h2]
theorem lowC_iff (c : UInt8) : lowC c = true ↔ 97 ≤ c.toNat ∧ c.toNat ≤ 122 := by simp [lowC]
theorem nameC_iff (c : UInt8) : nameC c = true ↔ (97 ≤ c.toNat ∧ c.toNat ≤ 122) ∨ (48 ≤ c.toNat ∧ c.toNat ≤ 57) ∨ c.toNat = 95 := by simp [nameC, lowC, or_assoc]
set_option maxHeartbeats 4000000 in
set_option maxRecDepth 1000000 in
theorem name_calls (s : ByteArray) (w : World) : Calls Try.prog 31 #[.string s] w fun e w' => e = .returned (.bool (okName s.data.toList)) ∧ Below w.heap.size w w' := by
  have hlen : s.data.toList.length = s.size := by rw [Array.length_toList]; rfl
  have HLEN := Aside0.mk hlen
  clear hlen
  go_enter Try.func31, Try.ntmps31
  go_wp2
  go_loopw [] (fun wr => ∃ pos : Nat, wr.heap[w.heap.size]? = some (.stringIter s pos) ∧ Aside0 (Below w.heap.size w wr) ∧ pos ≤ s.size ∧ Aside0 (∀ c, 0 < pos → s.data.toList[0]? = some c → lowC c = true) ∧ Aside0 (∀ (i : Nat) (c : UInt8), i < pos → s.data.toList[i]? = some c → nameC c = true)) (fun wr => s.size - wr.iterPos w.heap.size)
  case atStart =>
    refine ⟨0, ?_, ⟨below_alloc (Below.refl _ _) _⟩, Nat.zero_le _, ⟨fun c h => by omega⟩, ⟨fun i c h => by omega⟩⟩
    simpa using World.iter_heap w s 0
  case round =>
    obtain ⟨pos, hit, HB, hps, H0, HN⟩ := hrel
    by_cases hp : pos < s.size
    · have hnx : ∀ ty, (Instr.next (.pointer (some ⟨w.heap.size, 0, none⟩)) true ty).run Try.prog wr = _ := fun ty => Lib.run_next_any_at wr w.heap.size s pos ty hit hp
      have HIT := Aside0.mk (Lib.iterAt_heap wr w.heap.size s pos (pos + (Utf8.decode s pos).2) hit)
      have HB2 := Aside0.mk (Lib.below_iterAt HB.out (k := w.heap.size) (Nat.le_refl _) s (pos + (Utf8.decode s pos).2))
      have HG : Aside0 (s.data.toList[pos]? = some (s[pos]'hp)) := ⟨by rw [Array.getElem?_toList]; exact Array.getElem?_eq_getElem hp⟩
      obtain ⟨C, hC⟩ : ∃ C : UInt8, C = s[pos]'hp := ⟨_, rfl⟩
      rw [← hC] at HG
      have hd : (C.toNat < 128 ∧ Utf8.decode s pos = (C.toNat, 1)) ∨ (128 ≤ C.toNat ∧ 128 ≤ (Utf8.decode s pos).1 ∧ 1 ≤ (Utf8.decode s pos).2) := by
        rw [hC]
        by_cases ha : (s[pos]'hp).toNat < 128
        · exact Or.inl ⟨ha, decode_ascii s pos hp ha⟩
        · exact Or.inr ⟨by omega, decode_high s pos hp (by omega)⟩
      have hle := decode_le s pos
      clear hC
      obtain ⟨c, n, hdc⟩ : ∃ c n, Utf8.decode s pos = (c, n) := ⟨_, _, rfl⟩
      rw [hdc] at hd hle hnx HIT HB2
      simp only [] at hd hle hnx HIT HB2
      clear hdc
      obtain ⟨P2, hP2⟩ : ∃ P2, pos + n = P2 := ⟨_, rfl⟩
      rw [hP2] at hnx HIT HB2
      have HP2 := Aside0.mk hP2
      clear hP2
      have NO : Aside0 (¬ (97 ≤ C.toNat ∧ C.toNat ≤ 122) → (pos = 0 ∨ ¬ (48 ≤ C.toNat ∧ C.toNat ≤ 57) ∧ C.toNat ≠ 95) → okName s.data.toList = false) := ⟨fun h1 h2 => by
        refine okName_no HG.out ?_
        rcases h2 with h2 | h2
        · exact Or.inr ⟨h2, by cases h : lowC C with | false => rfl | true => exact absurd ((lowC_iff C).1 h) h1⟩
        · refine Or.inl ?_
          cases h : nameC C with
          | false => rfl
          | true => rcases (nameC_iff C).1 h with h | h | h
                    · exact absurd h h1
                    · exact absurd h h2.1
                    · exact absurd h h2.2⟩
      have YES : Aside0 (C.toNat < 128 → (97 ≤ C.toNat ∧ C.toNat ≤ 122) ∨ (0 < pos ∧ (48 ≤ C.toNat ∧ C.toNat ≤ 57 ∨ C.toNat = 95)) → (∀ c, 0 < pos + 1 → s.data.toList[0]? = some c → lowC c = true) ∧ (∀ (i : Nat) (c : UInt8), i < pos + 1 → s.data.toList[i]? = some c → nameC c = true)) := ⟨fun _ h => by
        refine ⟨fun c _ h0 => ?_, fun i c hi h0 => ?_⟩
        · by_cases hz : pos = 0
          · subst hz
            have e := HG.out.symm.trans h0
            simp only [Option.some.injEq] at e
            rw [← e]
            exact (lowC_iff C).2 (by omega)
          · exact H0.out c (by omega) h0
        · by_cases hz : i = pos
          · subst hz
            have e := HG.out.symm.trans h0
            simp only [Option.some.injEq] at e
            rw [← e]
            exact (nameC_iff C).2 (by omega)
          · exact HN.out i c (by omega) h0⟩
      obtain ⟨ci, hci⟩ : ∃ ci : Int, (c : Int) = ci := ⟨_, rfl⟩
      rw [hci] at hnx
      obtain ⟨pz, hpz⟩ : ∃ pz : Int, (pos : Int) = pz := ⟨_, rfl⟩
      rw [hpz] at hnx
      have hcase : (97 ≤ c ∧ c ≤ 122) ∨ c < 48 ∨ (48 ≤ c ∧ c ≤ 57) ∨ (57 < c ∧ c < 95) ∨ c = 95 ∨ c = 96 ∨ 122 < c := by omega
      have hpp : pos = 0 ∨ 0 < pos := by omega
      have HD := Aside0.mk hd
      clear hd
      rcases hpp with hpp | hpp
      all_goals rcases hcase with hc | hc | hc | hc | hc | hc | hc
      all_goals
        first | (have f1 : (97 ≤ ci) = True := eq_true (by omega)) | (have f1 : (97 ≤ ci) = False := eq_false (by omega))
        first | (have f2 : (ci ≤ 122) = True := eq_true (by omega)) | (have f2 : (ci ≤ 122) = False := eq_false (by omega))
        first | (have f3 : (122 < ci) = True := eq_true (by omega)) | (have f3 : (122 < ci) = False := eq_false (by omega))
        first | (have f4 : (ci < 48) = True := eq_true (by omega)) | (have f4 : (ci < 48) = False := eq_false (by omega))
        first | (have f5 : (48 ≤ ci) = True := eq_true (by omega)) | (have f5 : (48 ≤ ci) = False := eq_false (by omega))
        first | (have f6 : (57 < ci) = True := eq_true (by omega)) | (have f6 : (57 < ci) = False := eq_false (by omega))
        first | (have f7 : (ci == 95) = true := by rw [beq_iff_eq]; omega) | (have f7 : (ci == 95) = false := by rw [beq_eq_false_iff_ne]; omega)
        first | (have f8 : (ci != 95) = true := by rw [bne_iff_ne]; omega) | (have f8 : (ci != 95) = false := by rw [bne_eq_false_iff_eq]; omega)
        first | (have f9 : (pz == 0) = true := by rw [beq_iff_eq]; omega) | (have f9 : (pz == 0) = false := by rw [beq_eq_false_iff_ne]; omega)
        have HCI := Aside0.mk hci
        have HCC := Aside0.mk hc
        clear hci hc
      all_goals go_wp2
      all_goals first | (go_ret; refine ⟨?_, HB2.out⟩; rw [NO.out (by have := HD.out; simp only [Prod.mk.injEq] at this; have := HCC.out; omega) (by have := HD.out; simp only [Prod.mk.injEq] at this; have := HCC.out; omega)]; rfl) | (go_roundw; (case rel => exact ⟨P2, HIT.out, HB2, by have := HD.out; have := HP2.out; have := HCC.out; simp only [Prod.mk.injEq] at *; omega, ⟨fun c h => (YES.out (by have := HD.out; simp only [Prod.mk.injEq] at this; have := HCC.out; omega) (by have := HD.out; simp only [Prod.mk.injEq] at this; have := HCC.out; omega)).1 c (by omega)⟩, ⟨fun i c hi => (YES.out (by have := HD.out; simp only [Prod.mk.injEq] at this; have := HCC.out; omega) (by have := HD.out; simp only [Prod.mk.injEq] at this; have := HCC.out; omega)).2 i c (by have := HD.out; have := HP2.out; have := HCC.out; simp only [Prod.mk.injEq] at *; omega)⟩⟩); (case measure => simp only [World.iterPos, HIT.out, hit]; have := HD.out; have := HP2.out; have := HCC.out; simp only [Prod.mk.injEq] at *; omega))
    · have hnx : ∀ ty, (Instr.next (.pointer (some ⟨w.heap.size, 0, none⟩)) true ty).run Try.prog wr = _ := fun ty => Lib.run_next_end_at wr w.heap.size s pos ty hit hp
      have e : pos = s.size := by omega
      have HE := Aside0.mk (okName_of (l := s.data.toList) (fun c h => H0.out c (by
        have := (List.getElem?_eq_some_iff.1 h).1
        rw [HLEN.out] at this
        omega) h) (fun i c h => HN.out i c (by
        have := (List.getElem?_eq_some_iff.1 h).1
        rw [HLEN.out] at this
        omega) h))
      clear e
      go_wp2
      all_goals
        go_ret
        refine ⟨?_, HB.out⟩
        rw [HE.out, HLEN.out]
        first | (have h1 : (1 : Int) ≤ s.size := (by assumption); refine congrArg (fun b => Ending.returned (Value.bool b)) (?_ : decide ((s.size : Int) ≤ 15) = _); have h2 : 1 ≤ s.size := (by omega); by_cases h3 : s.size ≤ 15; (simp [h2, h3]; omega); (simp [h2, h3]; omega)) | (have h1 : (s.size : Int) < 1 := (by assumption); refine congrArg (fun b => Ending.returned (Value.bool b)) (?_ : false = _); have h2 : ¬ 1 ≤ s.size := (by omega); simp [h2])
end Go.Proofs.Ytliclajcifeneaa.Hand
namespace Go.Proofs.Ytliclajcifeneaa.Hand
set_option linter.unusedVariables false
set_option linter.unusedSimpArgs false
open Go.RowKit Go.Maps Go.Proofs.YtliclajcifeneaaW.PrintWords
set_option linter.unusedVariables false
set_option linter.unusedSimpArgs false
theorem law_strR : Keyed Try.prog 9 := string_keyed Try.underlying9
def hdV (h : Int × Int) : Value := .agg #[.int .i64 h.1, .int .i64 h.2]
/-- The map's entries. -/
def rtF (L : List Rt) : Lit → Option Value
  | .string x => (getR L x).map hdV
  | _ => none
theorem zero_hd (w : World) : (zeroValue 29).run Try.prog w = .ok (.agg #[.int .i64 0, .int .i64 0]) w := by kernel_rfl
structure HasR (w : World) (p s : Nat) (L : List Rt) : Prop where
  ptr : w.heap[p]? = some (.cells #[.map (some s)] 59 (0, 0))
  map : MapF Try.prog 9 w s (rtF L)
  good : GoodR L
section
variable {w w1 : World} {p s : Nat} {L : List Rt}
theorem HasR.p_lt (h : HasR w p s L) : p < w.heap.size := blk_lt h.ptr
theorem HasR.s_lt (h : HasR w p s L) : s < w.heap.size := h.map.lt
theorem HasR.ne (h : HasR w p s L) : p ≠ s := h.map.ne_cells h.ptr
theorem HasR.same (h : HasR w p s L) (hp : w1.heap[p]? = w.heap[p]?) (hs : w1.heap[s]? = w.heap[s]?) : HasR w1 p s L := ⟨hp.trans h.ptr, h.map.same hs, h.good⟩
theorem HasR.below (h : HasR w p s L) (hb : Below w.heap.size w w1) : HasR w1 p s L := h.same (hb.block p h.p_lt) (hb.block s h.s_lt)
theorem HasR.fr {T : Nat → Prop} (h : HasR w p s L) (hf : Fr T w w1) (hp : ¬ T p) (hs : ¬ T s) : HasR w1 p s L := h.same (hf.block p h.p_lt hp) (hf.block s h.s_lt hs)
theorem HasR.cell (h : HasR w p s L) : w.cell? ⟨p, 0, none⟩ = some (.map (some s)) := blk_cell h.ptr rfl
end
theorem sameKey_str (x y : Nm) : (Lit.string x).sameKey (.string y) = decide (x = y) := by
  by_cases h : x = y
  · subst h; simp [Lit.sameKey]
  · simp [Lit.sameKey, h]
theorem rt_room (L : List Rt) (n : Nat) (h : L.length ≤ n) : RoomF (rtF L) n := by
  refine ⟨L.map (fun q => Lit.string q.1), by simpa using h, fun kl hk => ?_⟩
  cases kl with
  | string x =>
    simp only [rtF, Option.isSome_map] at hk
    obtain ⟨g, hg⟩ := Option.isSome_iff_exists.1 hk
    exact List.mem_map.2 ⟨(x, g), getR_mem hg, rfl⟩
  | _ => simp [rtF] at hk
theorem upd_rt (L : List Rt) (x : Nm) (h : Int × Int) (kl : Lit) : updF (rtF L) (.string x) (hdV h) kl = rtF (putR L x h) kl := by
  cases kl with
  | string y =>
    simp only [updF, rtF, sameKey_str, getR_putR]
    by_cases e : x = y
    · simp [e]
    · simp [e, show y ≠ x from fun e2 => e e2.symm]
  | _ => simp [updF, rtF, Lit.sameKey]
theorem del_rt {L : List Rt} (hs : SortedR L) (x : Nm) (kl : Lit) : delF (rtF L) (.string x) kl = rtF (delR L x) kl := by
  cases kl with
  | string y =>
    simp only [delF, rtF, sameKey_str, getR_delR hs]
    by_cases e : x = y
    · simp [e]
    · simp [e, show y ≠ x from fun e2 => e e2.symm]
  | _ => simp [delF, rtF, Lit.sameKey]
theorem key_str (s : ByteArray) (hs : s.size ≤ maxLen) : keyOf Try.prog 9 (.string s) = some (.string s.data.toList) := WideMaps.keyOf_string_mk Try.underlying9 hs
theorem rnew_calls (w : World) : Calls Try.prog 10 #[] w fun e w' => ∃ p s, e = .returned (.pointer (some ⟨p, 0, none⟩)) ∧ HasR w' p s [] ∧ Below w.heap.size w w' ∧ w.heap.size ≤ p ∧ w.heap.size ≤ s := by
  have hmm := @run_makeMap Try.prog
  go_enter Try.func10, Try.ntmps10
  go_wp2
  go_ret
  have hm := (MapF.made (P := Try.prog) (k := 9) w).congr (g := rtF []) (fun kl => by cases kl <;> rfl)
  refine ⟨w.heap.size + 1, w.heap.size, rfl, ⟨alloc_two w _ _, hm.below (below_alloc (Below.refl _ _) _), GoodR.nil⟩, below_alloc (below_alloc (Below.refl _ _) _) _, by omega, Nat.le_refl _⟩
set_option maxRecDepth 100000 in
theorem rget_calls (w : World) (p s : Nat) (L : List Rt) (h : HasR w p s L) (x : ByteArray) (hx : x.size ≤ maxLen) :
    Calls Try.prog 17 #[.pointer (some ⟨p, 0, none⟩), .string x] w fun e w' => e = .returned (.tuple #[hdV (getE L x.data.toList).1, .int .i64 (getE L x.data.toList).2]) ∧ Below w.heap.size w w' := by
  have hc := cell_alloc h.cell
  have HKY := Aside0.mk (key_str x hx)
  have HM := Aside0.mk (h.map.below (below_alloc (Below.refl w.heap.size w) (.cells #[.int .i64 0, .int .i64 0] 29)))
  have hu := Try.underlying29
  cases hg : getR L x.data.toList with
  | none =>
    have HG := Aside0.mk (show rtF L (.string x.data.toList) = none by simp [rtF, hg])
    have HE := Aside0.mk (show getE L x.data.toList = ((0, 0), 130) by rw [getE, hg])
    clear hg h
    go_enter Try.func17, Try.ntmps17
    go_wp2_with (at_lookup; refine wpList_look rfl (.tmp 12) (.tmp 13) 57 rfl law_strR Try.underlying57 (zero_hd _) rfl HM.out (.string x) (.string x.data.toList) rfl HKY.out none HG.out ?_)
    refine bodyPost_ret (results_row_tmp rfl _ _ _ _ _ _ _ rfl (old_blk (heap_alloc_new w _) _) Try.underlying29 rfl (by kernel_rfl)) rfl ?_
    rw [HE.out]
    exact ⟨rfl, below_alloc (below_alloc (Below.refl _ _) _) _⟩
  | some g =>
    have HG := Aside0.mk (show rtF L (.string x.data.toList) = some (hdV g) by simp [rtF, hg])
    have HE := Aside0.mk (show getE L x.data.toList = (g, 0) by rw [getE, hg])
    clear hg h
    go_enter Try.func17, Try.ntmps17
    go_wp2_with (at_lookup; refine wpList_look rfl (.tmp 12) (.tmp 13) 57 rfl law_strR Try.underlying57 (zero_hd _) rfl HM.out (.string x) (.string x.data.toList) rfl HKY.out (some (.agg #[.int .i64 g.1, .int .i64 g.2])) HG.out ?_)
    refine bodyPost_ret (results_row_tmp rfl _ _ _ _ _ _ _ rfl (old_blk (heap_alloc_new w _) _) Try.underlying29 rfl (by kernel_rfl)) rfl ?_
    rw [HE.out]
    exact ⟨rfl, below_alloc (below_alloc (Below.refl _ _) _) _⟩
end Go.Proofs.Ytliclajcifeneaa.Hand
namespace Go.Proofs.Ytliclajcifeneaa.Hand
set_option linter.unusedVariables false
set_option linter.unusedSimpArgs false
open Go.RowKit Go.Maps Go.Proofs.YtliclajcifeneaaW.PrintWords
set_option linter.unusedVariables false
set_option linter.unusedSimpArgs false
theorem delR_none {L : List Rt} {x : Nm} (h : getR L x = none) : delR L x = L := by
  induction L with
  | nil => rfl
  | cons q l ih =>
    rw [getR] at h
    by_cases e : q.1 = x
    · rw [if_pos e] at h; cases h
    · rw [if_neg e] at h
      rw [delR, if_neg e, ih h]
set_option maxRecDepth 100000 in
theorem rclear_calls (w : World) (p s : Nat) (L : List Rt) (h : HasR w p s L) (x : ByteArray) (hx : x.size ≤ maxLen) :
    Calls Try.prog 18 #[.pointer (some ⟨p, 0, none⟩), .string x] w fun e w' => e = .returned (.int .i64 (clearE L x.data.toList).2) ∧ HasR w' p s (clearE L x.data.toList).1 ∧ Fr (fun b => b = s) w w' := by
  have hc := h.cell
  have HKY := Aside0.mk (key_str x hx)
  have HH := Aside0.mk h
  have hu := Try.underlying29
  have HE : Aside0 ((getE L x.data.toList).2 = (clearE L x.data.toList).2 ∧ (clearE L x.data.toList).1 = delR L x.data.toList) := ⟨by
    unfold getE clearE
    cases hg : getR L x.data.toList with
    | none => exact ⟨rfl, by simp [delR_none hg]⟩
    | some g => exact ⟨rfl, rfl⟩⟩
  obtain ⟨a, b, c, hg⟩ : ∃ a b c, getE L x.data.toList = ((a, b), c) := ⟨_, _, _, rfl⟩
  have HC : Aside0 (c = (clearE L x.data.toList).2) := ⟨by rw [← HE.out.1, hg]⟩
  have HGET := Aside0.mk (show Calls Try.prog 17 #[.pointer (some ⟨p, 0, none⟩), .string x] w (fun e w' => e = .returned (.tuple #[.agg #[.int .i64 a, .int .i64 b], .int .i64 c]) ∧ Below w.heap.size w w') from by
    have := rget_calls w p s L HH.out x hx
    rw [hg] at this
    exact this)
  clear h hg
  go_enter Try.func18, Try.ntmps18
  go_wp2_with (first | (go_at_call 17; (with_reducible refine HGET.out.mono ?_); rintro e w1 ⟨rfl, hb1⟩; have hc1 := cell_alloc (HH.out.below hb1).cell; have HB1 := Aside0.mk hb1; have HM1 := Aside0.mk (fun o => (HH.out.map.below hb1).below (below_alloc (Below.refl w1.heap.size w1) o)); clear hb1) | (at_delete; refine wpList_del rfl (.tmp 16) (.tmp 17) 57 rfl law_strR Try.underlying57 rfl (HM1.out _) (.string x) (.string x.data.toList) rfl HKY.out ?_; intro w2 hm2 ht2; have HM2 := Aside0.mk hm2; have HT2 := Aside0.mk ht2; clear hm2 ht2))
  go_ret
  have hf : Fr (fun b => b = s) w w2 := ((Fr.of_below HB1.out _).alloc _).trans' (HT2.out.fr rfl)
  refine ⟨by rw [← HC.out]; rfl, ⟨hf.get HH.out.ptr (fun e => HH.out.ne e), ?_, HH.out.good.clear _⟩, hf⟩
  rw [HE.out.2]
  exact HM2.out.congr (fun kl => del_rt HH.out.good.sorted _ kl)
/-- The map's block holds one entry for each root. -/
theorem rt_blk {w : World} {s : Nat} {L : List Rt} (h : MapF Try.prog 9 w s (rtF L)) (hs : SortedR L) : ∃ es clock, w.heap[s]? = some (.map es clock) ∧ es.size = L.length := by
  obtain ⟨D, hown, hfit⟩ := h
  have h1 := size_le_of_room law_strR hown hfit (rt_room L _ (Nat.le_refl _))
  obtain ⟨es', hD, hp, hkey⟩ := hown.entries law_strR
  have h2 : L.length ≤ Maps.size D := by
    have hnd : (L.map (fun q => Lit.string q.1)).Nodup := by
      rw [List.Nodup, List.pairwise_map]
      exact hs.imp (fun {p q} h e => nm_ne h (Lit.string.inj e))
    have := nodup_len (L.map (fun q => Lit.string q.1)) (es'.map (·.1)) hnd (fun x hx => by
      obtain ⟨q, hq, rfl⟩ := List.mem_map.1 hx
      have hh : has D (.string q.1) = true := by rw [(hfit _).1]; simp [rtF, mem_getR hs hq]
      rw [hD, has_eq, List.any_eq_true] at hh
      obtain ⟨p, hp1, hp2⟩ := hh
      refine List.mem_map.2 ⟨p, hp1, ?_⟩
      by_cases e : p.1 = Lit.string q.1
      · exact e
      · rw [sameKey_ne e] at hp2; cases hp2)
    rw [List.length_map, List.length_map] at this
    rw [hD]
    exact this
  obtain ⟨es, clock, hb, F, hn, hD2⟩ := hown
  refine ⟨es, clock, hb, ?_⟩
  have e1 : Maps.size D = es.size := by rw [hD2]; simp [Maps.size, length_sorted]
  omega
theorem rt_len {w : World} {s : Nat} {L : List Rt} (h : MapF Try.prog 9 w s (rtF L)) (hs : SortedR L) (ty : TypeId) : (Builtin.len_ #[57] ty #[.map (some s)]).run Try.prog w = .ok (.int .i64 (L.length : Int)) w := by
  obtain ⟨es, clock, hb, he⟩ := rt_blk h hs
  simp [Builtin.len_, run_underlying Try.underlying57, MapKept.run_getObj_map hb, goInt, Result.andThen, he]
set_option maxHeartbeats 1000000 in
set_option maxRecDepth 100000 in
theorem rset_calls (w : World) (p s : Nat) (L : List Rt) (h : HasR w p s L) (x : ByteArray) (hx : x.size ≤ maxLen) (a b : Int) :
    Calls Try.prog 16 #[.pointer (some ⟨p, 0, none⟩), .string x, .agg #[.int .i64 a, .int .i64 b]] w fun e w' => e = .returned (.int .i64 (setE L x.data.toList (a, b)).2) ∧ HasR w' p s (setE L x.data.toList (a, b)).1 ∧ Fr (fun b => b = s) w w' := by
  have hc := cell_alloc h.cell
  have HKY := Aside0.mk (key_str x hx)
  have HH := Aside0.mk h
  have hu := Try.underlying29
  have hm := Try.underlying57
  obtain ⟨g, hg⟩ : ∃ g : Option (Int × Int), getR L x.data.toList = g := ⟨_, rfl⟩
  have HG := Aside0.mk (show rtF L (.string x.data.toList) = g.map hdV by rw [← hg]; rfl)
  have HM := Aside0.mk (fun o => h.map.below (below_alloc (Below.refl w.heap.size w) o))
  obtain ⟨nk, hnk⟩ : ∃ nk, okName x.data.toList = nk := ⟨_, rfl⟩
  have HNK := Aside0.mk hnk
  have HGG := Aside0.mk hg
  have HN := Aside0.mk (fun W => show Calls Try.prog 31 #[.string x] W (fun e w' => e = .returned (.bool nk) ∧ Below W.heap.size W w') from by have := name_calls x W; rw [hnk] at this; exact this)
  clear h hg hnk
  obtain ⟨m, hm0⟩ : ∃ m : Int, pk (a, b) = m := ⟨_, rfl⟩
  have HPK := Aside0.mk hm0
  have HP := Aside0.mk (fun W => show Calls Try.prog 32 #[.agg #[.int .i64 a, .int .i64 b]] W (fun e w' => e = .returned (.int .u64 m) ∧ Below W.heap.size W w') from by have := pack_calls a b W; rw [show packM a b = m from hm0] at this; exact this)
  clear hm0
  have hfew := HH.out.good.few
  cases nk with
  | false =>
    have HE : Aside0 (setE L x.data.toList (a, b) = (L, 1)) := ⟨by rw [setE, if_pos (Or.inl HNK.out)]⟩
    rcases g with _ | ⟨g1, g2⟩
    all_goals
      go_enter Try.func16, Try.ntmps16
      go_wp2_with (first | (at_lookup; refine wpList_look rfl (.tmp 13) (.tmp 14) 57 rfl law_strR Try.underlying57 (zero_hd _) rfl (HM.out _) (.string x) (.string x.data.toList) rfl HKY.out none HG.out ?_) | (at_lookup; refine wpList_look rfl (.tmp 13) (.tmp 14) 57 rfl law_strR Try.underlying57 (zero_hd _) rfl (HM.out _) (.string x) (.string x.data.toList) rfl HKY.out (some (.agg #[.int .i64 g1, .int .i64 g2])) HG.out ?_) | (go_at_call 31; (with_reducible refine (HN.out _).mono ?_); rintro e w1 ⟨rfl, hb1⟩; have HB1 := Aside0.mk (bel_step (below_alloc (below_alloc (Below.refl _ _) _) _) hb1); have hz5 := (hb1.block w.heap.size (by simp; omega)).trans (old_blk (heap_alloc_new w (.cells #[.int .i64 a, .int .i64 b] 29)) _); have c0 := blk_cell hz5 (i := 0) rfl; have c1 := blk_cell hz5 (i := 1) rfl; have cp1 := (HH.out.below HB1.out).cell; have HZ5 := Aside0.mk hz5; clear hb1 hz5))
      go_ret
      rw [HE.out]
      exact ⟨rfl, HH.out.below HB1.out, Fr.of_below HB1.out _⟩
  | true =>
    by_cases hm0 : m = 0
    · subst hm0
      have HE : Aside0 (setE L x.data.toList (a, b) = (L, 1)) := ⟨by rw [setE, if_pos (Or.inr HPK.out)]⟩
      rcases g with _ | ⟨g1, g2⟩
      all_goals
        go_enter Try.func16, Try.ntmps16
        go_wp2_with (first | (at_lookup; refine wpList_look rfl (.tmp 13) (.tmp 14) 57 rfl law_strR Try.underlying57 (zero_hd _) rfl (HM.out _) (.string x) (.string x.data.toList) rfl HKY.out none HG.out ?_) | (at_lookup; refine wpList_look rfl (.tmp 13) (.tmp 14) 57 rfl law_strR Try.underlying57 (zero_hd _) rfl (HM.out _) (.string x) (.string x.data.toList) rfl HKY.out (some (.agg #[.int .i64 g1, .int .i64 g2])) HG.out ?_) | (go_at_call 31; (with_reducible refine (HN.out _).mono ?_); rintro e w1 ⟨rfl, hb1⟩; have HB1 := Aside0.mk (bel_step (below_alloc (below_alloc (Below.refl _ _) _) _) hb1); have hz5 := (hb1.block w.heap.size (by simp; omega)).trans (old_blk (heap_alloc_new w (.cells #[.int .i64 a, .int .i64 b] 29)) _); have c0 := blk_cell hz5 (i := 0) rfl; have c1 := blk_cell hz5 (i := 1) rfl; have cp1 := (HH.out.below HB1.out).cell; have HZ5 := Aside0.mk hz5; clear hb1 hz5) | (go_at_call 32; (with_reducible refine (HP.out _).mono ?_); rintro e w2 ⟨rfl, hb2⟩; have HB2 := Aside0.mk (bel_step HB1.out hb2); have hz6 := (hb2.block w.heap.size (blk_lt HZ5.out)).trans HZ5.out; have d0 := blk_cell hz6 (i := 0) rfl; have d1 := blk_cell hz6 (i := 1) rfl; have cp2 := (HH.out.below HB2.out).cell; have hln := rt_len (HH.out.map.below HB2.out) HH.out.good.sorted; clear hb2 hz6))
        go_ret
        rw [HE.out]
        exact ⟨rfl, HH.out.below HB2.out, Fr.of_below HB2.out _⟩
    · have hmz : (m == 0) = false := by simpa using hm0
      have HNE := Aside0.mk hm0
      clear hm0
      have HOK : Aside0 (¬ (okName x.data.toList = false ∨ pk (a, b) = 0)) := ⟨fun h => by
        rcases h with h | h
        · rw [HNK.out] at h; cases h
        · rw [HPK.out] at h; exact HNE.out h⟩
      by_cases hl : (getR L x.data.toList).isSome = false ∧ 16 ≤ L.length
      · have HE : Aside0 (setE L x.data.toList (a, b) = (L, 131)) := ⟨by rw [setE, if_neg HOK.out, if_pos hl]⟩
        obtain rfl : g = none := by rw [HGG.out] at hl; exact Option.not_isSome_iff_eq_none.1 (by rw [hl.1]; exact Bool.false_ne_true)
        have hl2 : (16 : Int) ≤ (L.length : Int) := by omega
        clear hl
        go_enter Try.func16, Try.ntmps16
        go_wp2_with (first | (at_lookup; refine wpList_look rfl (.tmp 13) (.tmp 14) 57 rfl law_strR Try.underlying57 (zero_hd _) rfl (HM.out _) (.string x) (.string x.data.toList) rfl HKY.out none HG.out ?_) | (go_at_call 31; (with_reducible refine (HN.out _).mono ?_); rintro e w1 ⟨rfl, hb1⟩; have HB1 := Aside0.mk (bel_step (below_alloc (below_alloc (Below.refl _ _) _) _) hb1); have hz5 := (hb1.block w.heap.size (by simp; omega)).trans (old_blk (heap_alloc_new w (.cells #[.int .i64 a, .int .i64 b] 29)) _); have c0 := blk_cell hz5 (i := 0) rfl; have c1 := blk_cell hz5 (i := 1) rfl; have cp1 := (HH.out.below HB1.out).cell; have HZ5 := Aside0.mk hz5; clear hb1 hz5) | (go_at_call 32; (with_reducible refine (HP.out _).mono ?_); rintro e w2 ⟨rfl, hb2⟩; have HB2 := Aside0.mk (bel_step HB1.out hb2); have hz6 := (hb2.block w.heap.size (blk_lt HZ5.out)).trans HZ5.out; have d0 := blk_cell hz6 (i := 0) rfl; have d1 := blk_cell hz6 (i := 1) rfl; have cp2 := (HH.out.below HB2.out).cell; have hln := rt_len (HH.out.map.below HB2.out) HH.out.good.sorted; clear hb2 hz6))
        go_ret
        rw [HE.out]
        exact ⟨rfl, HH.out.below HB2.out, Fr.of_below HB2.out _⟩
      · have HE : Aside0 (setE L x.data.toList (a, b) = (putR L x.data.toList (a, b), 0)) := ⟨by rw [setE, if_neg HOK.out, if_neg hl]⟩
        have HGO : Aside0 (GoodR (putR L x.data.toList (a, b))) := ⟨by have := HH.out.good.set x.data.toList (a, b); rw [HE.out] at this; exact this⟩
        have HL := Aside0.mk hl
        clear hl
        rcases g with _ | ⟨g1, g2⟩
        · have hl2 : ¬ (16 : Int) ≤ (L.length : Int) := fun h => HL.out ⟨by rw [HGG.out]; rfl, by omega⟩
          go_enter Try.func16, Try.ntmps16
          go_wp2_with (first | (at_lookup; refine wpList_look rfl (.tmp 13) (.tmp 14) 57 rfl law_strR Try.underlying57 (zero_hd _) rfl (HM.out _) (.string x) (.string x.data.toList) rfl HKY.out none HG.out ?_) | (go_at_call 31; (with_reducible refine (HN.out _).mono ?_); rintro e w1 ⟨rfl, hb1⟩; have HB1 := Aside0.mk (bel_step (below_alloc (below_alloc (Below.refl _ _) _) _) hb1); have hz5 := (hb1.block w.heap.size (by simp; omega)).trans (old_blk (heap_alloc_new w (.cells #[.int .i64 a, .int .i64 b] 29)) _); have c0 := blk_cell hz5 (i := 0) rfl; have c1 := blk_cell hz5 (i := 1) rfl; have cp1 := (HH.out.below HB1.out).cell; have HZ5 := Aside0.mk hz5; clear hb1 hz5) | (go_at_call 32; (with_reducible refine (HP.out _).mono ?_); rintro e w2 ⟨rfl, hb2⟩; have HB2 := Aside0.mk (bel_step HB1.out hb2); have hz6 := (hb2.block w.heap.size (blk_lt HZ5.out)).trans HZ5.out; have d0 := blk_cell hz6 (i := 0) rfl; have d1 := blk_cell hz6 (i := 1) rfl; have cp2 := (HH.out.below HB2.out).cell; have hln := rt_len (HH.out.map.below HB2.out) HH.out.good.sorted; clear hb2 hz6))
          obtain ⟨w3, hrun, hm3, ht3⟩ := (HH.out.map.below (HB2.out.drew)).upd law_strR hm (rt_room L 17 (by omega)) (by decide) (val := .agg #[.int .i64 a, .int .i64 b]) HKY.out
          have HM3 := Aside0.mk hm3
          have HF3 : Aside0 (Fr (fun b => b = s) w w3) := ⟨(Fr.of_below HB2.out.drew _).trans' (ht3.fr rfl)⟩
          clear hm3 ht3
          go_region
          all_goals go_wp2
          go_ret
          rw [HE.out]
          exact ⟨rfl, ⟨HF3.out.get HH.out.ptr (fun e => HH.out.ne e), HM3.out.congr (fun kl => upd_rt L _ (a, b) kl), HGO.out⟩, HF3.out⟩
        · go_enter Try.func16, Try.ntmps16
          go_wp2_with (first | (at_lookup; refine wpList_look rfl (.tmp 13) (.tmp 14) 57 rfl law_strR Try.underlying57 (zero_hd _) rfl (HM.out _) (.string x) (.string x.data.toList) rfl HKY.out (some (.agg #[.int .i64 g1, .int .i64 g2])) HG.out ?_) | (go_at_call 31; (with_reducible refine (HN.out _).mono ?_); rintro e w1 ⟨rfl, hb1⟩; have HB1 := Aside0.mk (bel_step (below_alloc (below_alloc (Below.refl _ _) _) _) hb1); have hz5 := (hb1.block w.heap.size (by simp; omega)).trans (old_blk (heap_alloc_new w (.cells #[.int .i64 a, .int .i64 b] 29)) _); have c0 := blk_cell hz5 (i := 0) rfl; have c1 := blk_cell hz5 (i := 1) rfl; have cp1 := (HH.out.below HB1.out).cell; have HZ5 := Aside0.mk hz5; clear hb1 hz5) | (go_at_call 32; (with_reducible refine (HP.out _).mono ?_); rintro e w2 ⟨rfl, hb2⟩; have HB2 := Aside0.mk (bel_step HB1.out hb2); have hz6 := (hb2.block w.heap.size (blk_lt HZ5.out)).trans HZ5.out; have d0 := blk_cell hz6 (i := 0) rfl; have d1 := blk_cell hz6 (i := 1) rfl; have cp2 := (HH.out.below HB2.out).cell; have hln := rt_len (HH.out.map.below HB2.out) HH.out.good.sorted; clear hb2 hz6))
          obtain ⟨w3, hrun, hm3, ht3⟩ := (HH.out.map.below (HB2.out.drew)).upd law_strR hm (rt_room L 17 (by omega)) (by decide) (val := .agg #[.int .i64 a, .int .i64 b]) HKY.out
          have HM3 := Aside0.mk hm3
          have HF3 : Aside0 (Fr (fun b => b = s) w w3) := ⟨(Fr.of_below HB2.out.drew _).trans' (ht3.fr rfl)⟩
          clear hm3 ht3
          go_region
          all_goals go_wp2
          go_ret
          rw [HE.out]
          exact ⟨rfl, ⟨HF3.out.get HH.out.ptr (fun e => HH.out.ne e), HM3.out.congr (fun kl => upd_rt L _ (a, b) kl), HGO.out⟩, HF3.out⟩
end Go.Proofs.Ytliclajcifeneaa.Hand
namespace Go.Proofs.Ytliclajcifeneaa.Hand
set_option linter.unusedVariables false
set_option linter.unusedSimpArgs false
open Go.RowKit Go.Maps Go.Sort Go.Shelf Go.Proofs.YtliclajcifeneaaW.PrintWords
set_option linter.unusedVariables false
set_option linter.unusedSimpArgs false
/-- A name as a string's bytes. -/
abbrev nmB (x : Nm) : ByteArray := ⟨x.toArray⟩
def namesB (L : List Rt) : List ByteArray := L.map fun q => nmB q.1
theorem names_len (L : List Rt) : (namesB L).length = L.length := by simp [namesB]
theorem names_get {L : List Rt} {j : Nat} {q : Rt} (h : L[j]? = some q) : (namesB L)[j]? = some (nmB q.1) := by simp [namesB, h]
theorem names_sorted {L : List Rt} {D : DataW Value} {w : World} {b n : Nat} (hs : SortedR L) (hown : w.ownsMap Try.prog 9 heldR b n D) (hf : Fits D (rtF L)) {ss : List (List UInt8)} (hp : ss.Perm (strKeys D)) :
    ss.mergeSort (fun x y => decide (x ≤ y)) = L.map (·.1) ∧ ss.length = L.length := by
  obtain ⟨es, hD, hpw, _⟩ := hown.entries law_strR
  obtain ⟨es', hD', hko⟩ := hown.keysOf
  obtain rfl : es = es' := by rw [hD] at hD'; simpa using hD'
  subst hD
  have hpl : (L.map (·.1)).Pairwise (fun a b => a < b) := List.pairwise_map.2 hs
  have hnd : (L.map (·.1)).Nodup := hpl.imp (fun h => nm_ne h)
  have h1 : (L.map (·.1)).Perm (strKeys (.map es)) := perm_strKeys hpw (fun p hp => by
    obtain ⟨key, hk⟩ := hko p hp
    obtain ⟨x, _, e, _⟩ := Maps.keyOf_str Try.underlying9 hk
    exact ⟨x, e⟩) hnd (fun x => by
    rw [(hf _).1]
    simp only [rtF, Option.isSome_map]
    constructor
    · intro hx
      obtain ⟨q, hq, rfl⟩ := List.mem_map.1 hx
      rw [mem_getR hs hq]; rfl
    · intro hx
      obtain ⟨g, hg⟩ := Option.isSome_iff_exists.1 hx
      exact List.mem_map.2 ⟨(x, g), getR_mem hg, rfl⟩)
  have h2 := hp.trans h1.symm
  refine ⟨?_, by rw [h2.length_eq, List.length_map]⟩
  have e := mergeSort_of_perm h2
  rw [show (ss.mergeSort fun x y => decide (x ≤ y)) = _ from e]
  exact List.mergeSort_of_pairwise (hpl.imp (fun {a b} h => by simp only [decide_eq_true_eq]; exact List.le_of_lt h))
theorem sorts_strR (m : Nat) : AnyZ.SortsIn Try.prog Try.sortedR_ren Fence.wide m :=
  ⟨fun blk off cap ss W hH hblk hsz => callsIn_wide.2 (AnyM.slices_Sort_string Try.sortR blk off cap ss W hH hblk hsz),
   fun p cap W => callsIn_wide.2 (AnyM.slices_Sort_string_none Try.sortR p cap W)⟩
theorem sortedR_in (W : World) (s : Nat) (L : List Rt) (hm : MapF Try.prog 9 W s (rtF L)) (hg : GoodR L) :
    CallsIn Fence.wide 6 Try.prog 33 #[.func (.func 49) #[] #[.pointer (some ⟨W.heap.size, 0, none⟩)]] (W.alloc (.cells #[.map (some s)] 57)) fun e w' =>
      ∃ u : Value, e = .returned u ∧ Kd.R Kd.string 9 w' W.heap.size (fun _ => True) u (namesB L) ∧ Below W.heap.size W w' := by
  obtain ⟨D, hD, hfit⟩ := hm
  have hsz : Maps.size D ≤ 16 := Nat.le_trans (size_le_of_room law_strR hD hfit (rt_room L _ (Nat.le_refl _))) hg.few
  have hseq : SeqGives Fence.wide 3 Try.prog 49 #[.pointer (some ⟨W.heap.size, 0, none⟩)] encStr (fun ss => ss.Perm (strKeys D)) (Maps.size D) (W.alloc (.cells #[.map (some s)] 57)) :=
    AnyZ.keys_gives (ρ := Try.keysR_ren) { Try.keysR with } Fence.wide _ trivial rfl (by omega) W.heap.size s (Maps.size D) D _ (by simp) (by simp) (hD.alloc _)
  have cS := AnyZ.sorted_in Try.sortedR Fence.wide 6 trivial trivial trivial trivial rfl (by omega) (sorts_strR _) (enters_of Try.func48 (by kernel_rfl) rfl) 49 #[.pointer (some ⟨W.heap.size, 0, none⟩)] trivial (enters_of Try.func49 (by kernel_rfl) rfl) _ _ (by unfold maxLen; omega) (by omega) _ hseq
  change CallsIn _ _ Try.prog 33 _ _ _ at cS
  refine cS.mono ?_
  rintro e w' ⟨u, ss, rfl, hS, hrow, hnil, hb⟩
  obtain ⟨h1, h2⟩ := names_sorted hg.sorted hD hfit hS
  rw [h1, h2, ← names_len L, List.map_map] at hrow
  exact ⟨u, rfl, Kd.R_of_own (show w'.ownsRow W.heap.size 9 1 u (namesB L).length ((namesB L).map Value.string) from by
    rw [namesB, List.map_map]
    exact ownsRow_base_a hrow (by simp)) (fun _ _ => trivial), ((Below.refl _ W).alloc (Nat.le_refl _) _).trans (hb.mono (by simp))⟩
theorem keysR_in (s : Nat) (W : World) : CallsIn Fence.wide 6 Try.prog 34 #[.map (some s)] W fun e w' => e = .returned (.func (.func 49) #[] #[.pointer (some ⟨W.heap.size, 0, none⟩)]) ∧ w' = W.alloc (.cells #[.map (some s)] 57) := AnyZ.keys_in Try.keysR Fence.wide 6 trivial rfl (some s) W
theorem names_calls (w : World) (p s : Nat) (L : List Rt) (h : HasR w p s L) :
    Calls Try.prog 19 #[.pointer (some ⟨p, 0, none⟩)] w fun e w' => ∃ u : Value, e = .returned u ∧ Kd.R Kd.string 9 w' w.heap.size (fun _ => True) u (namesB L) ∧ Below w.heap.size w w' := by
  have hc := h.cell
  have cS := sortedR_in w s L h.map h.good
  have cK := keysR_in s
  have hfK : Fence.wide.fn 34 := trivial
  have hfS : Fence.wide.fn 33 := trivial
  clear h
  refine (callsIn_wide (n := 7)).1 ?_
  refine callsIn_of_wp Try.func19 rfl trivial ?_ rfl
  simp only [Try.ntmps19, List.size_toArray, List.length_cons, List.length_nil, Nat.reduceAdd, Nat.reduceSub, Array.replicate_succ, Array.replicate_zero, List.push_toArray, List.append_toArray, List.nil_append, List.cons_append]
  gi_wp2_with (first | (gi_at_call 34; refine (cK _).mono ?_; rintro e w' ⟨rfl, rfl⟩) | (gi_at_call 33; refine cS.mono ?_; rintro e w2 ⟨u, rfl, hr, hb⟩; have HR := Aside0.mk hr; have HB2 := Aside0.mk hb; clear hr hb))
  go_ret
  exact ⟨u, rfl, HR.out, HB2.out⟩
end Go.Proofs.Ytliclajcifeneaa.Hand
namespace Go.Proofs.Ytliclajcifeneaa.Hand
set_option linter.unusedVariables false
set_option linter.unusedSimpArgs false
open Go.RowKit Go.Maps Go.Sort Go.Shelf Go.Lib Go.Proofs.YtliclajcifeneaaW.PrintWords
set_option linter.unusedVariables false
set_option linter.unusedSimpArgs false
section
variable {w wr : World} {g : Nat} {cur : Array Value} {e : TypeId} {fr : Nat × Nat} {xs ts : List Int}
theorem holds_blkU (hb : w.heap[g]? = some (.cells cur e (0, 0))) (ht : cur.toList.take xs.length = xs.map eU) : Holds eU w g 0 xs.toArray := by
  intro j hj
  have hj' : j < xs.length := by simpa using hj
  refine ⟨?_, by simp [World.frozen?, hb]⟩
  have h1 : (cur.toList.take xs.length)[j]? = (xs.map eU)[j]? := by rw [ht]
  rw [List.getElem?_take_of_lt hj'] at h1
  simp only [World.cell?, hb, Nat.zero_add, Option.isSome_none, Bool.false_eq_true, if_false]
  rw [← Array.getElem?_toList, h1]
  simp [hj']
theorem at_heapU (d : Array Int) (hb : w.heap[g]? = some (.cells cur e fr)) (h : At eU w g 0 d wr) : wr.heap[g]? = some (.cells (putCells eU 0 d cur) e fr) := by
  obtain ⟨n, os, rfl⟩ := h
  have hg : g < w.heap.size := (Array.getElem?_eq_some_iff.1 hb).1
  rw [heap_grow_old _ _ (by simpa using hg)]
  simp [putRow, mapBlock, Sort.ahead, Array.getElem?_modify, hb, onCells]
theorem at_frU (d : Array Int) (h : At eU w g 0 d wr) : Fr (fun b => b = g) w wr := by
  obtain ⟨n, os, rfl⟩ := h
  refine ⟨rfl, rfl, rfl, by simp, fun k hk hne => ?_⟩
  rw [heap_grow_old _ _ (by simpa using hk)]
  simp [putRow, mapBlock, Sort.ahead, Array.getElem?_modify, show ¬ g = k from fun e => hne e.symm]
theorem take_putU (cur : Array Value) (ts : List Int) (m : Nat) (hm : m ≤ ts.length) (h : ts.length ≤ cur.size) : (putCells eU 0 ts.toArray cur).toList.take m = (ts.take m).map eU := by
  apply List.ext_getElem?
  intro j
  by_cases hj : j < m
  · rw [List.getElem?_take_of_lt hj, Array.getElem?_toList]
    simp [putCells, show j < ts.length by omega, show j < cur.size by omega, hj]
  · rw [List.getElem?_take_eq_none (by omega), List.getElem?_eq_none (by simp; omega)]
end
theorem sortU_len (xs : List Int) : (sortU xs).length = xs.length := by simp [sortU]
theorem sort_row (w : World) (base : Nat) (ok : Nat → Prop) (u : Value) (xs : List Int) (h : Kd.R (Kd.int .u64) 70 w base ok u xs) (hl : xs.length ≤ 16) :
    Calls Try.prog 35 #[u] w fun e w' => e = .returned (.tuple #[]) ∧ Kd.R (Kd.int .u64) 70 w' base ok u (sortU xs) ∧ Fr (fun b => some b = u.ownBlock) w w' := by
  have ho := Kd.own_of_R h
  rcases ho.2 with ⟨rfl, h0⟩ | ⟨g, cap, cur, rfl, hb, hg, h1, h2, h3, h4⟩
  · have hx : xs = [] := List.eq_nil_of_length_eq_zero h0
    subst hx
    refine (uSort_none 0 w).mono ?_
    rintro e w' ⟨rfl, rfl⟩
    exact ⟨rfl, by rw [show sortU [] = [] by simp [sortU]]; exact h, Fr.refl _ _⟩
  · have hH := holds_blkU (xs := xs) hg (by rw [Nat.mul_one] at h4; exact h4)
    refine (uSort_calls g 0 cap xs w hH (blk_lt hg) hl).mono ?_
    rintro e w' ⟨rfl, hA⟩
    have hg2 := at_heapU _ hg hA
    refine ⟨rfl, Kd.R_of_own ⟨by simp [sortU_len, encs], .inr ⟨g, cap, _, by rw [sortU_len], hb, hg2, by rw [sortU_len]; exact h1, h2, by simp [putCells, h3], ?_⟩⟩ h.1, (at_frU _ hA).mono (fun b hb => by simp [Value.ownBlock, hb])⟩
    rw [Nat.mul_one]
    have := take_putU cur (sortU xs) (sortU xs).length (Nat.le_refl _) (by rw [sortU_len]; omega)
    rw [List.take_length] at this
    exact this
theorem zero_u64 (w : World) : (zeroValue 70).run Try.prog w = .ok (eU 0) w := by kernel_rfl
theorem ddU_le (xs : List Int) : (compact xs).length ≤ xs.length := by
  have h1 : ((List.range xs.length).filter (keeps xs.toArray)).length ≤ (List.range xs.length).length := List.length_filter_le _ _
  rw [compact, compactUpTo, List.length_map]
  simpa using h1
theorem compact_none (w : World) : Calls Try.prog 36 #[.slice none 0 0] w fun e w' => e = .returned (.slice none 0 0) ∧ w' = w := by
  go_enter Try.func36, Try.ntmps36
  go_wp2
  go_ret
  exact ⟨rfl, rfl⟩
theorem compact_row (w : World) (base : Nat) (ok : Nat → Prop) (u : Value) (xs : List Int) (h : Kd.R (Kd.int .u64) 70 w base ok u xs) (hl : xs.length ≤ 16) :
    Calls Try.prog 36 #[u] w fun e w' => ∃ u', e = .returned u' ∧ u'.ownBlock = u.ownBlock ∧ Kd.R (Kd.int .u64) 70 w' base ok u' (compact xs) ∧ Fr (fun b => some b = u.ownBlock) w w' := by
  have ho := Kd.own_of_R h
  rcases ho.2 with ⟨rfl, h0⟩ | ⟨g, cap, cur, rfl, hb, hg, h1, h2, h3, h4⟩
  · have hx : xs = [] := List.eq_nil_of_length_eq_zero h0
    subst hx
    refine (compact_none w).mono ?_
    rintro e w' ⟨rfl, rfl⟩
    exact ⟨_, rfl, rfl, h, Fr.refl _ _⟩
  · have hH := holds_blkU (xs := xs) hg (by rw [Nat.mul_one] at h4; exact h4)
    have hcon := AnyE.slices_Compact Try.compactR eU (fun _ => rfl) (EqlAt.intD _ _ _) (NeqAt.intD _ _ _) 0 zero_u64 g 0 cap xs.toArray w hH (by simp; omega) (by simpa using h1)
    change Calls Try.prog 36 _ _ _ at hcon
    rw [show xs.toArray.size = xs.length by simp] at hcon
    refine hcon.mono ?_
    rintro e w' ⟨rfl, q, hw⟩
    have hle := ddU_le xs
    have hlen : (compactUpTo xs.toArray xs.length ++ List.replicate (xs.length - (compactUpTo xs.toArray xs.length).length) (0 : Int)).length = xs.length := by
      have : (compactUpTo xs.toArray xs.length).length ≤ xs.length := hle
      simp; omega
    have hA : At eU w g 0 (compactUpTo xs.toArray xs.length ++ List.replicate (xs.length - (compactUpTo xs.toArray xs.length).length) (0 : Int)).toArray w' := ⟨q, #[], by rw [grow_empty]; exact hw⟩
    have hg2 := at_heapU _ hg hA
    refine ⟨_, rfl, rfl, Kd.R_of_own ⟨by simp [encs], .inr ⟨g, cap, _, rfl, hb, hg2, Nat.le_trans hle h1, h2, by simp [putCells, h3], ?_⟩⟩ h.1, (at_frU _ hA).mono (fun b hb => by simp [Value.ownBlock, hb])⟩
    rw [Nat.mul_one]
    have := take_putU cur _ (compact xs).length (by rw [hlen]; exact hle) (by rw [hlen]; omega)
    rw [this, compact, List.take_left']
    · rfl
    · rfl
end Go.Proofs.Ytliclajcifeneaa.Hand
namespace Go.Proofs.Ytliclajcifeneaa.Hand
set_option linter.unusedVariables false
set_option linter.unusedSimpArgs false
open Go.RowKit Go.Maps Go.Sort Go.Shelf Go.Lib Go.Proofs.YtliclajcifeneaaW.PrintWords Go.Proofs.Ytliclajcifeneaa.PHandRR
set_option linter.unusedVariables false
set_option linter.unusedSimpArgs false
theorem heldR_inv {v : Value} {y : DataW Value × List MemPlace} (h : heldR v = some y) : y.1 = .held v := by
  simp only [heldR, Option.some.injEq] at h
  rw [← h]
theorem rt_key {L : List Rt} {D : DataW Value} (h : Fits D (rtF L)) {kl : Lit} {v : Value} (hat : ∀ zd, D.atKey kl zd = .held v) : ∃ x g, kl = .string x ∧ getR L x = some g ∧ v = hdV g := by
  have h1 := has_true_of_atKey hat
  rw [(h kl).1] at h1
  cases kl with
  | string x =>
    simp only [rtF, Option.isSome_map] at h1
    obtain ⟨g, hg⟩ := Option.isSome_iff_exists.1 h1
    refine ⟨x, g, rfl, hg, ?_⟩
    have h2 := (h (.string x)).2 (hdV g) (by simp [rtF, hg]) .nil
    rw [hat] at h2
    injection h2
  | _ => simp [rtF] at h1
/-- The packs of what has been gone through. -/
def vis (L : List Rt) (left : Lit → Bool) : List Int := (L.filter (fun q => !left (.string q.1))).map (fun q => pk q.2)
theorem vis_start {L : List Rt} (hs : SortedR L) {D : DataW Value} (h : Fits D (rtF L)) : vis L (has D) = [] := by
  have : L.filter (fun q => !has D (.string q.1)) = [] := List.filter_eq_nil_iff.2 (fun q hq => by
    rw [(h _).1]
    simp [rtF, mem_getR hs hq])
  simp [vis, this]
theorem vis_end {L : List Rt} {left : Lit → Bool} (h : ∀ kl, left kl = false) : vis L left = L.map (fun q => pk q.2) := by
  have : L.filter (fun q => !left (.string q.1)) = L := List.filter_eq_self.2 (fun q hq => by simp [h])
  simp [vis, this]
theorem vis_len (L : List Rt) (left : Lit → Bool) : (vis L left).length ≤ L.length := by
  rw [vis, List.length_map]
  exact List.length_filter_le _ _
theorem vis_step {L : List Rt} (hs : SortedR L) {left : Lit → Bool} {x : Nm} {g : Int × Int} (hl : left (.string x) = true) (hg : getR L x = some g) : (vis L (fun z => left z && !z.sameKey (.string x))).Perm (vis L left ++ [pk g]) := by
  induction L with
  | nil => cases hg
  | cons q l ih =>
    rw [SortedR, List.pairwise_cons] at hs
    rw [getR] at hg
    by_cases hq : q.1 = x
    · rw [if_pos hq] at hg
      cases hg
      have h1 : l.filter (fun q => !(left (.string q.1) && !(Lit.string q.1).sameKey (.string x))) = l.filter (fun q => !left (.string q.1)) := List.filter_congr (fun p hp => by
        have : p.1 ≠ x := fun e => nm_irrefl x (by have := hs.1 p hp; rw [hq, e] at this; exact this)
        simp [sameKey_str, this])
      have h2 : vis (q :: l) left = vis l left := by simp [vis, List.filter_cons, hq, hl]
      have h3 : vis (q :: l) (fun z => left z && !z.sameKey (.string x)) = pk q.2 :: vis l left := by
        simp only [vis, List.filter_cons, hq, sameKey_str, decide_true, Bool.not_true, Bool.and_false, Bool.not_false, if_true, List.map_cons]
        rw [← h1]
        simp only [sameKey_str]
      rw [h2, h3]
      exact (List.perm_append_singleton _ _).symm
    · rw [if_neg hq] at hg
      have h := ih hs.2 hg
      have e : ∀ (lf : Lit → Bool), vis (q :: l) lf = if lf (.string q.1) = true then vis l lf else pk q.2 :: vis l lf := fun lf => by
        by_cases hh : lf (.string q.1) = true
        · simp [vis, List.filter_cons, hh]
        · simp [vis, List.filter_cons, hh]
      rw [e, e]
      have e2 : (left (.string q.1) && !(Lit.string q.1).sameKey (.string x)) = left (.string q.1) := by simp [sameKey_str, hq]
      simp only [e2]
      split
      · exact h
      · exact List.Perm.cons _ h
theorem sortU_perm {xs ys : List Int} (h : xs.Perm ys) : sortU xs = sortU ys := mergeSort_of_perm_i h
/-- All handles, as numbers: rising, each once. -/
def hsL (L : List Rt) : List Int := compact (sortU (L.map fun q => pk q.2))
def hsS (ns : List Int) : List S29 := ns.map fun n => ⟨(unpackM n).1, (unpackM n).2⟩
theorem info_u64R : (Try.prog.info? 70).map (fun i => (i.zero, i.size, i.bytes)) = some (some (.int .u64 0), 1, 8) := by kernel_rfl
theorem pk_range (h : Int × Int) : 0 ≤ pk h ∧ pk h < 4294967296 := by
  unfold pk packM
  split <;> omega
/-- An element of a row of u64. -/
theorem u64_cell {w : World} {e base : Nat} {ok : Nat → Prop} {A : Option Addr} {n c : Nat} {xs : List Int} (h : Kd.R (Kd.int .u64) e w base ok (.slice A n c) xs) {j : Nat} {x : Int} (hj : xs[j]? = some x) :
    ∃ g, A = some ⟨g, 0, none⟩ ∧ base ≤ g ∧ w.cell? ⟨g, j, none⟩ = some (.int .u64 x) := by
  have hlt := (List.getElem?_eq_some_iff.1 hj).1
  rcases (Kd.own_of_R h).2 with ⟨e1, h0⟩ | ⟨g, cap, cur, e1, hb, hg, h1, h2, h3, h4⟩
  · omega
  · simp only [Value.slice.injEq] at e1
    refine ⟨g, e1.1, hb, ?_⟩
    have hH := (holds_blkU (xs := xs) hg (by rw [Nat.mul_one] at h4; exact h4)) j (by simpa using hlt)
    have := hH.1
    rw [Nat.zero_add] at this
    rw [this]
    have e3 := List.getElem?_eq_some_iff.1 hj
    simp [e3.1, e3.2]
theorem hsS_take {ns : List Int} {j : Nat} {x : Int} (h : ns[j]? = some x) : hsS (ns.take j) ++ [⟨(unpackM x).1, (unpackM x).2⟩] = hsS (ns.take (j + 1)) := by
  rw [List.take_add_one, h]
  simp [hsS]
theorem compact_mem {xs : List Int} {x : Int} (h : x ∈ compact xs) : x ∈ xs := by
  rw [compact, compactUpTo] at h
  obtain ⟨j, hj, rfl⟩ := List.mem_map.1 h
  have := (List.mem_filter.1 hj).1
  rw [List.mem_range] at this
  simp [this]
theorem sortU_mem {xs : List Int} {x : Int} (h : x ∈ sortU xs) : x ∈ xs := (List.mergeSort_perm xs _).mem_iff.1 h
theorem hsL_mem {L : List Rt} {x : Int} (h : x ∈ hsL L) : ∃ q ∈ L, x = pk q.2 := by
  obtain ⟨q, hq, e⟩ := List.mem_map.1 (sortU_mem (compact_mem h))
  exact ⟨q, hq, e.symm⟩
set_option maxHeartbeats 1000000 in
set_option maxRecDepth 100000 in
theorem handles_calls (w : World) (p s : Nat) (L : List Rt) (h : HasR w p s L) :
    Calls Try.prog 20 #[.pointer (some ⟨p, 0, none⟩)] w fun e w' => ∃ u : Value, e = .returned u ∧ Kd.R k29 29 w' w.heap.size (fun _ => True) u (hsS (hsL L)) ∧ Below w.heap.size w w' := by
  have HH := Aside0.mk h
  have hc := h.cell
  obtain ⟨D, hD, hfit⟩ := h.map
  have HD := Aside0.mk hD
  have HFIT := Aside0.mk hfit
  have hpl := h.p_lt
  have hsl := h.s_lt
  clear h hD hfit
  go_enter Try.func20, Try.ntmps20
  go_wp2_with (at_range; refine wpList_range_own _ rfl _ _ rfl 9 29 law_strR Try.underlying57 heldR s _ D rfl HD.out ?_; intro w0 hrg0 hg0 hs0)
  go_frame
  have HRG0 := Aside0.mk hrg0
  have HB0 : Aside0 (Below w.heap.size w w0) := ⟨⟨hg0.os, hg0.tape, hg0.output, hg0.size, fun i hi => hg0.block i hi (by simp)⟩⟩
  have HS0 := Aside0.mk (show w.heap.size + 1 ≤ w0.heap.size by rw [hs0]; exact Nat.le_refl _)
  clear hrg0 hg0 hs0
  go_loopw [3] (fun uv wr => ∃ left cnt ps uw, uw = uv ∧ Aside0 (wr.ranges Try.prog 9 heldR s w.heap.size (Maps.size D) D left cnt) ∧ Aside0 (Kd.R (Kd.int .u64) 70 wr w.heap.size (fun k => k ≠ w.heap.size) uv ps) ∧ Aside0 (ps.Perm (vis L left)) ∧ Aside0 (Below w.heap.size w wr) ∧ Aside0 (w.heap.size + 1 ≤ wr.heap.size)) (fun _ wr => wr.rangeLeft s w.heap.size)
  case atStart => exact ⟨has D, Maps.size D, [], _, rfl, HRG0, ⟨Kd.R_nil _ _ _ _ _⟩, ⟨by rw [vis_start HH.out.good.sorted HFIT.out]⟩, HB0, HS0⟩
  case round =>
    obtain ⟨left, cnt, ps, uv, rfl, HRG, HR, HP, HB, HSZ⟩ := hrel
    go_wp2_with (at_next; refine wpList_next_ranges _ rfl _ rfl 9 law_strR heldR (fun x : Nm => encStr x) (fun (x : Value) => x) (fun key kl hkey => by obtain ⟨x, rfl, _⟩ := Maps.keyOf_str Try.underlying9 hkey; exact ⟨x, rfl⟩) (fun u y hu => ⟨u, rfl⟩) s w.heap.size _ D left cnt rfl HRG.out ?_ ?_)
    · intro _ hl0
      have HPE : Aside0 (sortU ps = sortU (L.map fun q => pk q.2)) := ⟨sortU_perm (by have := HP.out; rw [vis_end hl0] at this; exact this)⟩
      have HPL : Aside0 (ps.length ≤ 16) := ⟨by rw [HP.out.length_eq]; exact Nat.le_trans (vis_len L left) HH.out.good.few⟩
      clear hl0
      have HSO := Aside0.mk (sort_row wr w.heap.size _ uv ps HR.out HPL.out)
      go_wp2_with (first | (go_at_call 35; (with_reducible refine HSO.out.mono ?_); rintro e w2 ⟨rfl, hr2, hf2⟩; have HR2 := Aside0.mk hr2; have HF2 := Aside0.mk hf2; clear hr2 hf2) | (go_at_call 36; (with_reducible refine (compact_row w2 w.heap.size _ uv (sortU ps) HR2.out (by rw [sortU_len]; exact HPL.out)).mono ?_); rintro e w3 ⟨u3, rfl, ho3, hr3, hf3⟩; have HR3 := Aside0.mk hr3; have HF3 := Aside0.mk hf3; have HO3 := Aside0.mk ho3; obtain ⟨A3, c3, rfl, hcap3, hC3⟩ := Kd.R_reads hr3; clear hr3 hf3 ho3))
      obtain ⟨ns, hns⟩ : ∃ ns, compact (sortU ps) = ns := ⟨_, rfl⟩
      have hns2 : ns = hsL L := by rw [← hns, HPE.out]; rfl
      rw [hns] at HR3 ⊢
      have hln : ns.length ≤ 16 := by rw [← hns]; exact Nat.le_trans (ddU_le _) (by rw [sortU_len]; exact HPL.out)
      have HRANGE : Aside0 (∀ x ∈ ns, 0 ≤ x ∧ x < 18446744073709551616) := ⟨fun x hx => by
        rw [hns2] at hx
        obtain ⟨q, _, rfl⟩ := hsL_mem hx
        have := pk_range q.2
        omega⟩
      have HNS := Aside0.mk hns2
      have hownlow : ∀ b, some b = uv.ownBlock → w.heap.size ≤ b := fun b hb => by
        rcases (Kd.own_of_R HR.out).2 with ⟨e, _⟩ | ⟨g, cap, cur, e, hg, _⟩
        · rw [e] at hb; cases hb
        · rw [e] at hb; have h2 : b = g := Option.some.inj hb; omega
      have HB3 : Aside0 (Below w.heap.size w w3) := ⟨HB.out.trans ((HF2.out.trans' HF3.out).below w.heap.size HB.out.size (fun b hb => hownlow b hb))⟩
      have HOK3 : Aside0 (∀ b, some b = (Value.slice A3 ns.length c3).ownBlock → w.heap.size ≤ b) := ⟨fun b hb => by
        rw [hns] at HO3
        exact hownlow b (hb.trans HO3.out)⟩
      clear hns hns2 HSO HR2 HF2 HF3 HR HP HRG HPE HPL HO3 hownlow hC3 hcap3
      go_loopw [6, 28] (fun uo vi w4 => ∃ (t : Nat) (ow : Value), ow = uo ∧ vi = .int .i64 t ∧ t ≤ ns.length ∧ Aside0 (Kd.R (Kd.int .u64) 70 w4 w.heap.size (fun k => k ≠ w.heap.size) (.slice A3 ns.length c3) ns) ∧ Aside0 (Kd.R k29 29 w4 w.heap.size (fun k => some k ≠ (Value.slice A3 ns.length c3).ownBlock) ow (hsS (ns.take t))) ∧ Aside0 (Below w.heap.size w w4)) (fun _ vi _ => ns.length - (nOf vi).toNat)
      case atStart => exact ⟨0, _, rfl, rfl, Nat.zero_le _, HR3, ⟨Kd.R_nil _ _ _ _ _⟩, HB3⟩
      case round =>
        obtain ⟨t, ow, rfl, rfl, ht, HR4, HO4, HB4⟩ := hrel
        clear HR3 HB3
        by_cases hlt : t < ns.length
        · obtain ⟨x, hx⟩ : ∃ x, ns[t]? = some x := ⟨_, List.getElem?_eq_getElem hlt⟩
          obtain ⟨g, rfl, hg, hcell⟩ := u64_cell HR4.out hx
          obtain ⟨x0, x1⟩ := HRANGE.out x (List.mem_of_getElem? hx)
          have HTK := Aside0.mk (hsS_take hx)
          have hgl : g < wr.heap.size := World.block_lt_of_cell? _ _ hcell
          clear hx
          go_wp2_with (first | (go_at_call 37; (with_reducible refine (unpack_calls x x0 x1 _).mono ?_); rintro e w5 ⟨rfl, hb5⟩; have HB5 := Aside0.mk hb5; clear hb5) | ((with_reducible refine gate_bi (b := .append) (xs := #[.tmp 32, .tmp 35]) rfl ?_); go_must (refine Kd.R_append k29 (w0 := w) w.heap.size rfl (.tmp 32) (.tmp 35) 44 29 (.agg #[.int .i64 0, .int .i64 0]) 16 rfl Try.underlying44 info29 rfl (by decide) (by omega) ow (hsS (ns.take t)) ⟨(unpackM x).1, (unpackM x).2⟩ [.int .i64 (unpackM x).1, .int .i64 (unpackM x).2] (fun k => some k ≠ (Value.slice (some ⟨g, 0, none⟩) ns.length c3).ownBlock) (fun _ => False) rfl rfl (k29_mkM _ _ _ ⟨(unpackM x).1, (unpackM x).2⟩) (fun _ hk => hk.elim) ?fr ?ro ?be ?si ?le ?_); (case fr => exact fun k hk e => by have h1 : k = g := Option.some.inj e; have h2 := HB5.out.size; omega); (case ro => exact Kd.R_below HO4.out HB5.out); (case be => exact bel_step HB4.out HB5.out); (case si => exact (bel_step HB4.out HB5.out).size); (case le => simp [hsS]; omega); intro v6 w6 hr6 hb6 hg6 hat6; have HR6 := Aside0.mk hr6; have HB6 := Aside0.mk hb6; have HG6 := Aside0.mk hg6; clear hr6 hb6 hg6 hat6))
          go_roundw
          case rel =>
            refine ⟨t + 1, v6, rfl, by go_num, by omega, ⟨?_⟩, ⟨by rw [← HTK.out]; exact HR6.out⟩, HB6⟩
            refine Kd.R_of_own (own_move (Kd.own_of_R HR4.out) (fun k hk => ?_)) HR4.out.1
            obtain rfl : g = k := Option.some.inj hk
            exact (HG6.out.block g (by have := HB5.out.size; omega) (fun e => HO4.out.1 g e.symm rfl)).trans (HB5.out.block g hgl)
          case measure => simp [nOf]; omega
        · go_wp2
          go_ret
          obtain rfl : t = ns.length := by omega
          have := HO4.out
          rw [List.take_length, HNS.out] at this
          exact ⟨ow, rfl, Kd.R_mono this (fun _ _ => trivial), HB4.out⟩
    · intro x u kl yd yp w1 cnt1 hkey hlk hv hat hrg1 hlt hg1 hs1 hen
      obtain ⟨x', ⟨a, b⟩, hkl, hg, hu⟩ := rt_key HFIT.out (v := u) (fun zd => (hat zd).trans (heldR_inv (y := (yd, yp)) hv))
      subst hkl hu
      have HST := Aside0.mk (vis_step HH.out.good.sorted hlk hg)
      have HPL : Aside0 (ps.length ≤ 16) := ⟨by rw [HP.out.length_eq]; exact Nat.le_trans (vis_len L left) HH.out.good.few⟩
      have HRG1 := Aside0.mk hrg1
      have HLT := Aside0.mk hlt
      have HR1 := Aside0.mk (Kd.R_step HR.out (fun k hk hl => hg1.block k hl (fun e => hk (Option.some.inj e))))
      have HB1 : Aside0 (Below w.heap.size w w1) := ⟨HB.out.trans ⟨hg1.os, hg1.tape, hg1.output, hg1.size, fun i hi => hg1.block i (by have := HB.out.size; omega) (fun e => by have := Option.some.inj e; omega)⟩⟩
      have HSZ1 : Aside0 (w.heap.size + 1 ≤ w1.heap.size) := ⟨by rw [hs1]; exact HSZ.out⟩
      have hen2 : (Instr.entry (.pointer (some ⟨w.heap.size, 0, none⟩))).run Try.prog w1 = .ok (.tuple #[encStr x, .agg #[.int .i64 a, .int .i64 b]]) w1 := hen
      clear hrg1 hkey hlk hv hat hlt hg1 hs1 hg hen HR HB HSZ
      have hpl16 := HPL.out
      go_wp2_with (first | (go_at_call 32; (with_reducible refine (pack_calls a b _).mono ?_); rintro e w2 ⟨rfl, hb2⟩; have HB2 := Aside0.mk (bel_step (below_alloc (Below.refl w1.heap.size w1) _) hb2); clear hb2) | ((with_reducible refine gate_bi (b := .append) (xs := #[.tmp 18, .tmp 21]) rfl ?_); go_must (refine Kd.R_append (Kd.int .u64) (w0 := w) w.heap.size rfl (.tmp 18) (.tmp 21) 76 70 (.int .u64 0) 8 rfl Try.underlying76 info_u64R rfl (by decide) (by omega) uv ps (packM a b) [.int .u64 (packM a b)] (fun k => k ≠ w.heap.size) (fun _ => False) rfl rfl rfl (fun _ hk => hk.elim) ?fr ?ro ?be ?si ?le ?_); (case fr => exact fun k hk e => by have := HB2.out.size; have := HSZ1.out; omega); (case ro => exact Kd.R_below HR1.out HB2.out); (case be => exact bel_step HB1.out HB2.out); (case si => exact (bel_step HB1.out HB2.out).size); (case le => omega); intro v6 w6 hr6 hb6 hg6 hat6; have HR6 := Aside0.mk hr6; have HB6 := Aside0.mk hb6; have HG6 := Aside0.mk hg6; clear hr6 hb6 hg6 hat6))
      have hb2 := HB2.out
      have hrg2 := (HRG1.out.kept (row := none) ⟨hb2.os, hb2.tape, hb2.output, hb2.size, fun i hi _ => hb2.block i hi⟩ (by simp) (by simp)).kept HG6.out (row_ne_low (Kd.own_of_R HR1.out) hsl) (fun e => HR1.out.1 _ e.symm rfl)
      refine ⟨⟨_, cnt1, _, _, rfl, ⟨hrg2⟩, HR6, ⟨?_⟩, HB6, ⟨?_⟩⟩, ?_⟩
      · exact (HP.out.append_right _).trans HST.out.symm
      · have h1 := HG6.out.size
        have h2 := hb2.size
        have h3 := HSZ1.out
        omega
      · rw [hrg2.left_eq, HRG.out.left_eq]
        exact HLT.out
end Go.Proofs.Ytliclajcifeneaa.Hand
namespace Go.Proofs.Ytliclajcifeneaa.Hand
set_option linter.unusedVariables false
set_option linter.unusedSimpArgs false
open Go.RowKit Go.Maps Go.Sort Go.Shelf Go.Proofs.YtliclajcifeneaaW.PrintWords
set_option linter.unusedVariables false
set_option linter.unusedSimpArgs false
/-- One root, written. -/
def encR1 (q : Rt) : List Int := ([(q.1.length : Int)] ++ bytesOf (nmB q.1)) ++ leB (pk q.2) 8
def encRs (L : List Rt) : List Int := L.flatMap encR1
/-- All roots, written. -/
def encR (L : List Rt) : List Int := [(L.length : Int)] ++ encRs L
theorem encRs_take {L : List Rt} {j : Nat} {q : Rt} (h : L[j]? = some q) : encRs (L.take j) ++ encR1 q = encRs (L.take (j + 1)) := by
  rw [List.take_add_one, h]
  simp [encRs]
theorem name_len {q : Rt} {L : List Rt} (hg : GoodR L) (hq : q ∈ L) : 1 ≤ q.1.length ∧ q.1.length ≤ 15 := by
  have h := (hg.each q hq).1
  cases hn : q.1 with
  | nil => rw [hn] at h; cases h
  | cons c l =>
    rw [hn] at h
    simp only [okName, Bool.and_eq_true, decide_eq_true_eq] at h
    simp
    omega
theorem nmB_size (x : Nm) : (nmB x).size = x.length := by simp [ByteArray.size]
theorem encR1_len {q : Rt} {L : List Rt} (hg : GoodR L) (hq : q ∈ L) : (encR1 q).length ≤ 24 := by
  have := name_len hg hq
  simp only [encR1, List.length_append, List.length_cons, List.length_nil, bytesOf_length, nmB_size, leB_length]
  omega
theorem encRs_len {L : List Rt} (hg : GoodR L) (l : List Rt) (hl : ∀ q ∈ l, q ∈ L) : (encRs l).length ≤ 24 * l.length := by
  induction l with
  | nil => simp [encRs]
  | cons q l ih =>
    have h1 := ih (fun p hp => hl p (List.mem_cons_of_mem _ hp))
    have h2 := encR1_len hg (hl q (List.mem_cons_self ..))
    simp only [encRs, List.flatMap_cons, List.length_append, List.length_cons] at h1 ⊢
    omega
/-- A row told from another place on. -/
theorem R_rebase {w : World} {e b : Nat} {ok ok' : Nat → Prop} {v : Value} {xs : List Int} (b' : Nat) (h : Kd.R (Kd.int .u8) e w b ok v xs) (hb : ∀ k, v.ownBlock = some k → b' ≤ k) (hok : ∀ k, v.ownBlock = some k → ok' k) : Kd.R (Kd.int .u8) e w b' ok' v xs := by
  refine Kd.R_of_own ?_ hok
  have ho := Kd.own_of_R h
  rcases ho.2 with ⟨e1, h0⟩ | ⟨g, cap, cur, e1, hg, hr⟩
  · exact ⟨ho.1, .inl ⟨e1, h0⟩⟩
  · exact ⟨ho.1, .inr ⟨g, cap, cur, e1, hb g (by rw [e1]; rfl), hr⟩⟩
/-- What block a row stands in. -/
theorem own_type {α : Type} {enc : α → Value} {h1 : ∀ x, (enc x).oneCell' = true} {w : World} {e base : Nat} {ok : Nat → Prop} {v : Value} {xs : List α} (h : (Kd.scalar enc h1).R e w base ok v xs) {k : Nat} (hk : v.ownBlock = some k) : base ≤ k ∧ ∃ cs, w.heap[k]? = some (.cells cs e (0, 0)) := by
  rcases (Kd.own_of_R h).2 with ⟨e1, h0⟩ | ⟨g, cap, cur, e1, hg, hb, _⟩
  · rw [e1] at hk; cases hk
  · rw [e1] at hk
    obtain rfl : g = k := Option.some.inj hk
    exact ⟨hg, cur, hb⟩
theorem str_cell {w : World} {e base : Nat} {ok : Nat → Prop} {A : Option Addr} {n c : Nat} {xs : List ByteArray} (h : Kd.R Kd.string e w base ok (.slice A n c) xs) {j : Nat} {x : ByteArray} (hj : xs[j]? = some x) :
    ∃ g, A = some ⟨g, 0, none⟩ ∧ base ≤ g ∧ w.cell? ⟨g, j, none⟩ = some (.string x) := by
  have hlt := (List.getElem?_eq_some_iff.1 hj).1
  rcases (Kd.own_of_R h).2 with ⟨e1, h0⟩ | ⟨g, cap, cur, e1, hb, hg, h1, h2, h3, h4⟩
  · omega
  · simp only [Value.slice.injEq] at e1
    refine ⟨g, e1.1, hb, ?_⟩
    rw [Nat.mul_one] at h4
    have h5 : (cur.toList.take xs.length)[j]? = (encs Value.string xs)[j]? := by rw [h4]
    rw [List.getElem?_take_of_lt hlt] at h5
    simp only [World.cell?, hg, Option.isSome_none, Bool.false_eq_true, if_false]
    rw [← Array.getElem?_toList, h5]
    simp [encs, hj]
/-- A row stays when rows of another type are written. -/
theorem R_other {α : Type} {enc : α → Value} {h1 : ∀ x, (enc x).oneCell' = true} {w w1 : World} {e base e2 : Nat} {ok : Nat → Prop} {v : Value} {xs : List α} (h : (Kd.scalar enc h1).R e w base ok v xs) {u : Value} (hg : w.grownBy w1 u.ownBlock) (hu : ∀ k, u.ownBlock = some k → ∃ cs, w.heap[k]? = some (.cells cs e2 (0, 0))) (hne : e ≠ e2) : (Kd.scalar enc h1).R e w1 base ok v xs := by
  refine Kd.R_of_own (own_move (Kd.own_of_R h) (fun k hk => ?_)) h.1
  obtain ⟨_, cs, hc⟩ := own_type h hk
  refine hg.block k (Array.getElem?_eq_some_iff.1 hc).1 (fun e3 => ?_)
  obtain ⟨cs2, hc2⟩ := hu k e3.symm
  rw [hc] at hc2
  have := Option.some.inj hc2
  injection this with _ h4
  exact hne h4
theorem R_otherF {α : Type} {enc : α → Value} {h1 : ∀ x, (enc x).oneCell' = true} {w w1 : World} {e base e2 : Nat} {ok : Nat → Prop} {v : Value} {xs : List α} (h : (Kd.scalar enc h1).R e w base ok v xs) {u : Value} (hf : Fr (fun k => u.ownBlock = some k) w w1) (hu : ∀ k, u.ownBlock = some k → ∃ cs, w.heap[k]? = some (.cells cs e2 (0, 0))) (hne : e ≠ e2) : (Kd.scalar enc h1).R e w1 base ok v xs := by
  refine Kd.R_of_own (own_move (Kd.own_of_R h) (fun k hk => ?_)) h.1
  obtain ⟨_, cs, hc⟩ := own_type h hk
  refine hf.block k (Array.getElem?_eq_some_iff.1 hc).1 (fun e3 => ?_)
  obtain ⟨cs2, hc2⟩ := hu k e3
  rw [hc] at hc2
  have := Option.some.inj hc2
  injection this with _ h4
  exact hne h4
theorem u8_wrap {n : Nat} (h : n < 256) : IntKind.u8.wrap (n : Int) = (n : Int) := by simp [IntKind.wrap, IntKind.bits, IntKind.signed]; omega
theorem fits8 (n : Int) : fitsB n 8 = true := by simp [fitsB, rightB]
/-- word.Put of eight bytes behind a row that a call owns. -/
theorem put8_row (w W : World) (v : Value) (l : List Int) (n : Int) (hr : Kd.R (Kd.int .u8) 5 W w.heap.size (fun _ => True) v l) (hb : Below w.heap.size w W) (hl : l.length ≤ 5000) :
    Calls Try.prog 38 #[v, .int .i64 8, .int .u64 n] W fun e w' => ∃ v' : Value, e = .returned (.tuple #[v', .bool true]) ∧ Kd.R (Kd.int .u8) 5 w' w.heap.size (fun _ => True) v' (l ++ leB n 8) ∧ Below w.heap.size w w' ∧ Fr (fun k => v.ownBlock = some k) W w' := by
  refine (put_calls (fun k => v.ownBlock = some k) v l 8 n W (R_rebase 0 hr (fun _ _ => Nat.zero_le _) (fun k hk => hk)) (fits8 n) (by omega)).mono ?_
  rintro e w' ⟨v', rfl, h1, h2⟩
  refine ⟨v', rfl, R_rebase w.heap.size h1 (fun k hk => ?_) (fun _ _ => trivial), hb.trans (h2.below w.heap.size hb.size (fun b hb => (own_type hr hb).1)), h2⟩
  rcases h1.1 k hk with h | h
  · exact (own_type hr h).1
  · exact Nat.le_trans hb.size h
theorem new_byte (w : World) (x : Int) (ok : Nat → Prop) (h : ok w.heap.size) : Kd.R (Kd.int .u8) 5 (w.alloc (.cells #[.int .u8 x] 5)) w.heap.size ok (.slice (some ⟨w.heap.size, 0, none⟩) 1 1) [x] := by
  refine Kd.R_of_own ⟨by simp [encs], .inr ⟨w.heap.size, 1, _, rfl, Nat.le_refl _, heap_alloc_new w _, Nat.le_refl _, by decide, rfl, rfl⟩⟩ (fun k hk => ?_)
  obtain rfl : w.heap.size = k := Option.some.inj hk
  exact h
set_option maxHeartbeats 2000000 in
set_option maxRecDepth 100000 in
theorem renc_calls (w : World) (p s : Nat) (L : List Rt) (h : HasR w p s L) :
    Calls Try.prog 21 #[.pointer (some ⟨p, 0, none⟩)] w fun e w' => ∃ u : Value, e = .returned u ∧ Kd.R (Kd.int .u8) 5 w' w.heap.size (fun _ => True) u (encR L) ∧ Below w.heap.size w w' := by
  have hc := h.cell
  have hln := rt_len h.map h.good.sorted
  have hwr := u8_wrap (n := L.length) (by have := h.good.few; omega)
  have HH := Aside0.mk h
  have HN1 : Aside0 (HasR (w.alloc (.cells #[.int .u8 (L.length : Int)] 5)) p s L) := ⟨h.below (below_alloc (Below.refl _ _) _)⟩
  have HV1 := Aside0.mk (new_byte w (L.length : Int) (fun _ => True) trivial)
  clear h
  go_enter Try.func21, Try.ntmps21
  go_wp2_with (go_at_call 19; (with_reducible refine (names_calls _ p s L HN1.out).mono ?_); rintro e w2 ⟨un, rfl, hr2, hb2⟩; have HN2 := Aside0.mk hr2; have HB2 := Aside0.mk hb2; obtain ⟨A2, c2, rfl, hcap2, hC2⟩ := Kd.R_reads hr2; clear hr2 hb2)
  have hln2 : (namesB L).length = L.length := names_len L
  rw [hln2]
  rw [hln2] at HN2
  have HB3 : Aside0 (Below w.heap.size w w2) := ⟨bel_step (below_alloc (Below.refl _ _) _) HB2.out⟩
  have HV2 : Aside0 (Kd.R (Kd.int .u8) 5 w2 w.heap.size (fun _ => True) (.slice (some ⟨w.heap.size, 0, none⟩) 1 1) ([(L.length : Int)] ++ encRs (L.take 0))) := ⟨Kd.R_below HV1.out HB2.out⟩
  have HN3 : Aside0 (Kd.R Kd.string 9 w2 (w.heap.size + 1) (fun _ => True) (.slice A2 L.length c2) (namesB L)) := ⟨by have := HN2.out; rw [World.size_alloc] at this; exact this⟩
  have hfew := HH.out.good.few
  clear HN2 HB2 HV1 HN1 hC2 hcap2 hln2 hln hwr
  go_loopw [3, 16] (fun ub vi wr => ∃ (t : Nat) (uw : Value), uw = ub ∧ vi = .int .i64 t ∧ t ≤ L.length ∧ Aside0 (Kd.R (Kd.int .u8) 5 wr w.heap.size (fun _ => True) uw ([(L.length : Int)] ++ encRs (L.take t))) ∧ Aside0 (Kd.R Kd.string 9 wr (w.heap.size + 1) (fun _ => True) (.slice A2 L.length c2) (namesB L)) ∧ Aside0 (Below w.heap.size w wr)) (fun _ vi _ => L.length - (nOf vi).toNat)
  case atStart => exact ⟨0, _, rfl, rfl, Nat.zero_le _, HV2, HN3, HB3⟩
  case round =>
    obtain ⟨t, uw, rfl, rfl, ht, HV, HN, HB⟩ := hrel
    clear HV2 HN3 HB3
    by_cases hlt : t < L.length
    · obtain ⟨q, hq⟩ : ∃ q, L[t]? = some q := ⟨_, List.getElem?_eq_getElem hlt⟩
      have hqm := List.mem_of_getElem? hq
      obtain ⟨gn, rfl, hgn, hcell⟩ := str_cell HN.out (names_get hq)
      have HTK := Aside0.mk (encRs_take hq)
      obtain ⟨x, ⟨a, b⟩⟩ := q
      have hnl := name_len HH.out.good hqm
      have hsz := nmB_size x
      have hwr := u8_wrap (n := x.length) (by simp only at hnl; omega)
      have HHr := Aside0.mk (HH.out.below HB.out)
      have HGET := Aside0.mk (show rtF L (.string (nmB x).data.toList) = some (hdV (a, b)) by simp [rtF, mem_getR HH.out.good.sorted hqm])
      have HKY := Aside0.mk (key_str (nmB x) (by rw [hsz]; simp only at hnl; unfold maxLen; omega))
      have HLEN : Aside0 ((encRs (L.take t)).length ≤ 24 * 16) := ⟨Nat.le_trans (encRs_len HH.out.good _ (fun q hq => List.mem_of_mem_take hq)) (by rw [List.length_take]; omega)⟩
      clear hq hqm
      have hl15 : x.length ≤ 15 := hnl.2
      have hel : (([(L.length : Int)] ++ encRs (L.take t)) ++ [(x.length : Int)]).length ≤ 400 := by have := HLEN.out; simp; omega
      have HEL := Aside0.mk hel
      clear hel hnl
      go_wp2_with (first | ((with_reducible refine gate_bi (b := .append) (xs := #[.tmp 20, .tmp 24]) rfl ?_); go_must (refine Kd.R_append (Kd.int .u8) (w0 := w) w.heap.size rfl (.tmp 20) (.tmp 24) 46 5 (.int .u8 0) 1 rfl Try.underlying46 info_u8 rfl (by decide) (by decide) uw ([(L.length : Int)] ++ encRs (L.take t)) (x.length : Int) [.int .u8 (x.length : Int)] (fun _ => True) (fun _ => False) rfl rfl rfl (fun _ hk => hk.elim) (fun _ _ => trivial) HV.out HB.out HB.out.size ?le ?_); (case le => have := HEL.out; simp at this ⊢; omega); intro v4 w4 hr4 hb4 hg4 hat4; have HR4 := Aside0.mk hr4; have HB4 := Aside0.mk hb4; have HN4 := Aside0.mk (R_other HN.out hg4 (fun k hk => (own_type HV.out hk).2) (by decide)); clear hr4 hb4 hg4 hat4) | ((with_reducible refine gate_bi (b := .append) (xs := #[.tmp 25, .tmp 26]) rfl ?_); go_must (refine print_append_str (w0 := w) w.heap.size rfl (.tmp 25) (.tmp 26) 46 9 5 rfl Try.underlying46 Try.underlying9 info_u8 v4 (([(L.length : Int)] ++ encRs (L.take t)) ++ [(x.length : Int)]) (nmB x) rfl rfl (Kd.own_of_R HR4.out) HB4.out HB4.out.size ?le ?_); (case le => have := HEL.out; rw [hsz]; omega); intro v5 w5 ho5 hb5 hg5; have HR5 : Aside0 (Kd.R (Kd.int .u8) 5 w5 w.heap.size (fun _ => True) v5 ((([(L.length : Int)] ++ encRs (L.take t)) ++ [(x.length : Int)]) ++ bytesOf (nmB x))) := ⟨Kd.R_of_own ho5 (fun _ _ => trivial)⟩; have HB5 := Aside0.mk hb5; have HN5 := Aside0.mk (R_other HN4.out hg5 (fun k hk => (own_type HR4.out hk).2) (by decide)); have hcm := (HH.out.below hb5).cell; have HM5 := Aside0.mk (HH.out.below hb5).map; clear ho5 hb5 hg5) | (at_lookup; refine wpList_look1 rfl (.tmp 33) (.tmp 34) 57 rfl law_strR Try.underlying57 (zero_hd _) rfl HM5.out (.string (nmB x)) (.string (nmB x).data.toList) rfl HKY.out (some (.agg #[.int .i64 a, .int .i64 b])) HGET.out ?_) | (go_at_call 32; (with_reducible refine (pack_calls a b _).mono ?_); rintro e w6 ⟨rfl, hb6⟩; have HB6 := Aside0.mk hb6; have HR6 := Aside0.mk (Kd.R_below HR5.out hb6); have HN6 := Aside0.mk (Kd.R_below HN5.out hb6); have HBB6 : Aside0 (Below w.heap.size w w6) := ⟨bel_step HB5.out hb6⟩; clear hb6) | (go_at_call 38; (with_reducible refine (put8_row w w6 v5 ((([(L.length : Int)] ++ encRs (L.take t)) ++ [(x.length : Int)]) ++ bytesOf (nmB x)) (packM a b) HR6.out HBB6.out ?le).mono ?_); (case le => have := HEL.out; rw [List.length_append, bytesOf_length, hsz]; omega); rintro e w7 ⟨v7, rfl, hr7, hb7, hf7⟩; have HR7 := Aside0.mk hr7; have HB7 := Aside0.mk hb7; have HN7 := Aside0.mk (R_otherF HN6.out hf7 (fun k hk => (own_type HR6.out hk).2) (by decide)); clear hr7 hb7 hf7))
      go_roundw
      case rel =>
        refine ⟨t + 1, v7, rfl, by go_num, by omega, ⟨?_⟩, HN7, HB7⟩
        rw [← HTK.out]
        have := HR7.out
        simp only [List.append_assoc] at this ⊢
        exact this
      case measure => simp [nOf]; omega
    · go_wp2
      go_ret
      obtain rfl : t = L.length := by omega
      have := HV.out
      rw [List.take_length] at this
      exact ⟨uw, rfl, this, HB.out⟩
end Go.Proofs.Ytliclajcifeneaa.Hand
namespace Go.Proofs.Ytliclajcifeneaa.Hand
set_option linter.unusedVariables false
set_option linter.unusedSimpArgs false
open Go.RowKit Go.Maps Go.Sort Go.Shelf Go.Proofs.YtliclajcifeneaaW.PrintWords Go.Proofs.Ytliclajcifeneaa.PHandRR
set_option linter.unusedVariables false
set_option linter.unusedSimpArgs false
/-- An answer, and the roots behind it. -/
def AnsR (w : World) (p s : Nat) (r : List Rt × (Int × Int) × Int) (e : Ending) (w' : World) : Prop := e = .returned (.tuple #[.agg #[.int .i64 r.2.1.1, .int .i64 r.2.1.2], .int .i64 r.2.2]) ∧ HasR w' p s r.1 ∧ Fr (fun b => b = s) w w'
theorem HasR.set {w : World} {p s : Nat} {L : List Rt} (h : HasR w p s L) {g : Nat} (hp : g ≠ p) (hs : g ≠ s) (i : Nat) (v : Value) : HasR (w.setCell ⟨g, i, none⟩ v) p s L :=
  h.fr (T := fun b => b = g) ((Fr.refl (fun b => b = g) w).setCell (p := ⟨g, i, none⟩) (.inl (show (fun b => b = g) g from rfl)) v) (fun e => hp e.symm) (fun e => hs e.symm)
/-- Two cells of a new block are written. -/
theorem ans_set {w w3 : World} {p s : Nat} {L : List Rt} (h : HasR w3 p s L) (hp : p < w.heap.size) (hs : s < w.heap.size) (hf : Fr (fun b => b = s) w w3) (u v : Value) :
    HasR ((w3.setCell ⟨w.heap.size + 1, 0, none⟩ u).setCell ⟨w.heap.size + 1, 1, none⟩ v) p s L ∧ Fr (fun b => b = s) w ((w3.setCell ⟨w.heap.size + 1, 0, none⟩ u).setCell ⟨w.heap.size + 1, 1, none⟩ v) :=
  ⟨(h.set (by omega) (by omega) 0 u).set (by omega) (by omega) 1 v, (hf.setCell (p := ⟨w.heap.size + 1, 0, none⟩) (.inr (Nat.le_succ _)) u).setCell (p := ⟨w.heap.size + 1, 1, none⟩) (.inr (Nat.le_succ _)) v⟩
set_option maxRecDepth 100000 in
set_option maxHeartbeats 4000000 in
theorem does_calls (w : World) (p s : Nat) (L : List Rt) (h : HasR w p s L) (k : Int) (x : ByteArray) (hx : x.size ≤ maxLen) (a b : Int) :
    Calls Try.prog 14 #[.pointer (some ⟨p, 0, none⟩), .agg #[.int .i64 k, .string x, .int .i64 a, .int .i64 b]] w (AnsR w p s (doE L k x.data.toList (a, b))) := by
  have hu31 := Try.underlying31
  have hu29 := Try.underlying29
  obtain ⟨Po, hPo⟩ : ∃ Po, Po = AnsR w p s (doE L k x.data.toList (a, b)) := ⟨_, rfl⟩
  have HPO := Aside0.mk hPo
  rw [← hPo]
  have HH := Aside0.mk h
  obtain ⟨W, hW⟩ : ∃ W, W = (w.alloc (.cells #[.int .i64 k, .string x, .int .i64 a, .int .i64 b] 31)).alloc (.cells #[.int .i64 0, .int .i64 0] 29) := ⟨_, rfl⟩
  have HBW : Aside0 (Below w.heap.size w W) := ⟨by rw [hW]; exact below_alloc (below_alloc (Below.refl _ _) _) _⟩
  have hWz : W.heap[w.heap.size + 1]? = some (.cells #[.int .i64 0, .int .i64 0] 29 (0, 0)) := by rw [hW]; have := heap_alloc_new (w.alloc (.cells #[.int .i64 k, .string x, .int .i64 a, .int .i64 b] 31)) (.cells #[.int .i64 0, .int .i64 0] 29); rw [World.size_alloc] at this; exact this
  have HWZ := Aside0.mk hWz
  have HHW := Aside0.mk (h.below HBW.out)
  have hsl := h.s_lt
  have hpl := h.p_lt
  have HW := Aside0.mk hW
  clear h hPo hWz hW
  by_cases k0 : k = 0
  · subst k0
    obtain ⟨r, hr⟩ : ∃ r, setE L x.data.toList (a, b) = r := ⟨_, rfl⟩
    have HR := Aside0.mk hr
    have HSET := Aside0.mk (rset_calls W p s L HHW.out x hx a b)
    rw [hr] at HSET
    clear hr
    rw [HW.out] at HSET
    go_enter Try.func14, Try.ntmps14
    go_wp2_with (go_at_call 16; (with_reducible refine HSET.out.mono ?_); rintro e w3 ⟨rfl, h3, hf3⟩; rw [← HW.out] at hf3; have hz3 := (hf3.block (w.heap.size + 1) (blk_lt HWZ.out) (by omega)).trans HWZ.out; have z0 := blk_cell hz3 (i := 0) rfl; have z1 := blk_cell hz3 (i := 1) rfl; have f0 := blk_free hz3 0; have f1 := blk_free hz3 1; have HZ3 := Aside0.mk hz3; have H3 := Aside0.mk h3; have HF3 := Aside0.mk ((Fr.of_below HBW.out (fun b => b = s)).trans' hf3); clear h3 hf3 hz3)
    refine bodyPost_ret (results_row_tmp rfl _ _ _ _ _ _ _ rfl (blk_set (blk_set HZ3.out 0 _) 1 _) Try.underlying29 rfl (by kernel_rfl)) rfl ?_
    rw [HPO.out]
    obtain ⟨e1, e2⟩ := ans_set H3.out hpl hsl HF3.out (.int .i64 0) (.int .i64 0)
    rw [doE, if_pos rfl, HR.out]
    exact ⟨rfl, e1, e2⟩
  by_cases k1 : k = 1
  · subst k1
    obtain ⟨r, hr⟩ : ∃ r, clearE L x.data.toList = r := ⟨_, rfl⟩
    have HR := Aside0.mk hr
    have HSET := Aside0.mk (rclear_calls W p s L HHW.out x hx)
    rw [hr] at HSET
    clear hr k0
    rw [HW.out] at HSET
    go_enter Try.func14, Try.ntmps14
    go_wp2_with (go_at_call 18; (with_reducible refine HSET.out.mono ?_); rintro e w3 ⟨rfl, h3, hf3⟩; rw [← HW.out] at hf3; have hz3 := (hf3.block (w.heap.size + 1) (blk_lt HWZ.out) (by omega)).trans HWZ.out; have z0 := blk_cell hz3 (i := 0) rfl; have z1 := blk_cell hz3 (i := 1) rfl; have f0 := blk_free hz3 0; have f1 := blk_free hz3 1; have HZ3 := Aside0.mk hz3; have H3 := Aside0.mk h3; have HF3 := Aside0.mk ((Fr.of_below HBW.out (fun b => b = s)).trans' hf3); clear h3 hf3 hz3)
    refine bodyPost_ret (results_row_tmp rfl _ _ _ _ _ _ _ rfl (blk_set (blk_set HZ3.out 0 _) 1 _) Try.underlying29 rfl (by kernel_rfl)) rfl ?_
    rw [HPO.out]
    obtain ⟨e1, e2⟩ := ans_set H3.out hpl hsl HF3.out (.int .i64 0) (.int .i64 0)
    rw [doE, if_neg (by decide), if_pos rfl, HR.out]
    exact ⟨rfl, e1, e2⟩
  by_cases k2 : k = 2
  · subst k2
    obtain ⟨a1, b1, c1, hr⟩ : ∃ a1 b1 c1, getE L x.data.toList = ((a1, b1), c1) := ⟨_, _, _, rfl⟩
    have HR := Aside0.mk hr
    have HSET := Aside0.mk (show Calls Try.prog 17 #[.pointer (some ⟨p, 0, none⟩), .string x] W (fun e w' => e = .returned (.tuple #[.agg #[.int .i64 a1, .int .i64 b1], .int .i64 c1]) ∧ Below W.heap.size W w') from by
      have := rget_calls W p s L HHW.out x hx
      rw [hr] at this
      exact this)
    clear hr k0 k1
    rw [HW.out] at HSET
    go_enter Try.func14, Try.ntmps14
    go_wp2_with (go_at_call 17; (with_reducible refine HSET.out.mono ?_); rintro e w3 ⟨rfl, hb3⟩; rw [← HW.out] at hb3; have h3 := HHW.out.below hb3; have hf3 := Fr.of_below hb3 (fun b => b = s); have hz3 := (hf3.block (w.heap.size + 1) (blk_lt HWZ.out) (by omega)).trans HWZ.out; have z0 := blk_cell hz3 (i := 0) rfl; have z1 := blk_cell hz3 (i := 1) rfl; have f0 := blk_free hz3 0; have f1 := blk_free hz3 1; have HZ3 := Aside0.mk hz3; have H3 := Aside0.mk h3; have HF3 := Aside0.mk ((Fr.of_below HBW.out (fun b => b = s)).trans' hf3); clear h3 hf3 hz3)
    refine bodyPost_ret (results_row_tmp rfl _ _ _ _ _ _ _ rfl (blk_set (blk_set HZ3.out 0 _) 1 _) Try.underlying29 rfl (by kernel_rfl)) rfl ?_
    rw [HPO.out]
    obtain ⟨e1, e2⟩ := ans_set H3.out hpl hsl HF3.out (.int .i64 a1) (.int .i64 b1)
    rw [doE, if_neg (by decide), if_neg (by decide), if_pos rfl, HR.out]
    exact ⟨rfl, e1, e2⟩
  · have z0 : (k == 0) = false := by simpa using k0
    have z1 : (k == 1) = false := by simpa using k1
    have z2 : (k == 2) = false := by simpa using k2
    have HE := Aside0.mk (show doE L k x.data.toList (a, b) = (L, (0, 0), 0) by rw [doE, if_neg k0, if_neg k1, if_neg k2])
    clear k0 k1 k2
    go_enter Try.func14, Try.ntmps14
    go_wp2
    refine bodyPost_ret (results_row_tmp rfl _ _ _ _ _ _ _ rfl (by rw [← HW.out]; exact HWZ.out) Try.underlying29 rfl (by kernel_rfl)) rfl ?_
    rw [HPO.out, HE.out, ← HW.out]
    exact ⟨rfl, HHW.out, Fr.of_below HBW.out _⟩
end Go.Proofs.Ytliclajcifeneaa.Hand
namespace Go.Proofs.Ytliclajcifeneaa.Hand
set_option linter.unusedVariables false
set_option linter.unusedSimpArgs false
open Go.RowKit Go.Proofs.YtliclajcifeneaaW.PrintWords Go.Proofs.Ytliclajcifeneaa.PHandRR
set_option linter.unusedVariables false
set_option linter.unusedSimpArgs false
theorem w64 {x : Int} (h : -9223372036854775808 ≤ x ∧ x ≤ 9223372036854775807) : wrap64 x = x := by rw [← IntWalk.i64_left]; exact IntWalk.i64_in _ h
theorem w64n {j : Nat} (h : j ≤ 100000) : wrap64 ((j : Int) + 1) = ((j + 1 : Nat) : Int) := by rw [w64 (by omega)]; omega
/-- A root, as the document has it. -/
def toS1 (q : Rt) : S66 := ⟨nmB q.1, ⟨q.2.1, q.2.2⟩⟩
def toS (L : List Rt) : List S66 := L.map toS1
theorem toS_len (L : List Rt) : (toS L).length = L.length := by simp [toS]
theorem toS_app (L M : List Rt) : toS (L ++ M) = toS L ++ toS M := by simp [toS]
theorem nm_of (x : ByteArray) : nmB x.data.toList = x := by simp [nmB]
theorem rd_toS (pre suf : List Rt) (q : Rt) : rd_T66 (toS (pre ++ q :: suf)) (pre.length : Int) = toS1 q := by
  simp [rd_T66, toS, List.getD_eq_getElem?_getD]
theorem ba_list (x : ByteArray) : x.toList = x.data.toList := Lib.toList_data x
theorem nmB_list (x : Nm) : (nmB x).toList = x := by rw [ba_list]
/-- Where a name stands. -/
def idxR : List Rt → Nm → Nat
  | [], _ => 0
  | q :: l, x => if q.1 = x then 0 else idxR l x + 1
theorem idx_some {L : List Rt} {x : Nm} {h : Int × Int} (hg : getR L x = some h) : idxR L x < L.length ∧ L[idxR L x]? = some (x, h) := by
  induction L with
  | nil => cases hg
  | cons q l ih =>
    rw [getR] at hg
    by_cases hq : q.1 = x
    · rw [if_pos hq] at hg
      cases hg
      subst hq
      simp [idxR]
    · rw [if_neg hq] at hg
      obtain ⟨h1, h2⟩ := ih hg
      rw [idxR, if_neg hq]
      exact ⟨by simp; omega, by simpa using h2⟩
theorem del_idx (L : List Rt) (x : Nm) : delR L x = L.take (idxR L x) ++ L.drop (idxR L x + 1) := by
  induction L with
  | nil => rfl
  | cons q l ih =>
    rw [delR, idxR]
    by_cases hq : q.1 = x
    · simp [hq]
    · simp [hq, ih]
theorem put_idx {L : List Rt} (hs : SortedR L) {x : Nm} {g : Int × Int} (hg : getR L x = some g) (h : Int × Int) : putR L x h = L.set (idxR L x) (x, h) := by
  induction L with
  | nil => cases hg
  | cons q l ih =>
    rw [SortedR, List.pairwise_cons] at hs
    rw [getR] at hg
    rw [putR, idxR]
    by_cases hq : q.1 = x
    · simp [hq, nm_irrefl]
    · rw [if_neg hq] at hg
      have h1 := hs.1 _ (getR_mem hg)
      rw [if_neg (nm_asymm h1), if_neg hq, if_neg hq, ih hs.2 hg]
      rfl
/-- What Find tells. -/
def findI (L : List Rt) (x : Nm) : Int := if (getR L x).isSome = true then (idxR L x : Int) else -1
theorem find_suf (x : ByteArray) : ∀ (suf pre : List Rt) (k : Nat), pre.length + suf.length ≤ 100000 → suf.length < k →
    ecdysisref13_Find.l0 k (toS (pre ++ suf)) x (pre.length : Int) = some (if (getR suf x.data.toList).isSome = true then ((pre.length + idxR suf x.data.toList : Nat) : Int) else -1)
  | [], pre, k + 1, _, _ => by
    rw [ecdysisref13_Find.l0, if_neg (by rw [toS_len]; simp)]
    rfl
  | q :: suf, pre, k + 1, hl, hk => by
    have ih := find_suf x suf (pre ++ [q]) k (by simp at hl ⊢; omega) (by simp at hk; omega)
    rw [ecdysisref13_Find.l0, if_pos (by rw [toS_len]; simp; omega), if_pos (by omega), rd_toS]
    by_cases hq : q.1 = x.data.toList
    · have h1 : (toS1 q).f0.toList = x.toList := by rw [toS1, nmB_list, ba_list, hq]
      rw [if_pos h1, getR, idxR, if_pos hq, if_pos hq]
      rfl
    · have h1 : ¬ (toS1 q).f0.toList = x.toList := by rw [toS1, nmB_list, ba_list]; exact hq
      rw [if_neg h1, getR, idxR, if_neg hq, if_neg hq, w64n (by simp at hl; omega)]
      have e1 : ((pre ++ [q]).length : Int) = ((pre.length + 1 : Nat) : Int) := by simp
      rw [List.append_assoc, e1] at ih
      simp only [List.cons_append, List.nil_append] at ih
      rw [ih]
      split <;> simp <;> omega
theorem find_f (L : List Rt) (x : ByteArray) (k : Nat) (hl : L.length ≤ 100000) (hk : L.length < k) : ecdysisref13_Find.f k (toS L) x = some (findI L x.data.toList) := by
  have := find_suf x L [] k (by simpa using hl) hk
  rw [ecdysisref13_Find.f]
  simp only [List.length_nil, List.nil_append, Nat.zero_add] at this
  exact this
theorem pack_f (a b : Int) : ecdysisref11_Pack.f a b = some (packM a b) := by
  rw [ecdysisref11_Pack.f, packM]
  by_cases h1 : a < 0
  · rw [if_pos h1, if_neg (by omega)]
  · rw [if_neg h1]
    by_cases h2 : a > 65535
    · rw [if_pos h2, if_neg (by omega)]
    · rw [if_neg h2]
      by_cases h3 : b < 1
      · rw [if_pos h3, if_neg (by omega)]
      · rw [if_neg h3]
        by_cases h4 : b > 65535
        · rw [if_pos h4, if_neg (by omega)]
        · rw [if_neg h4, if_pos (by omega), w64 (x := 65536 * a) (by omega), w64 (by omega), u64_wrap_of (by omega) (by omega)]
          congr 1
          omega
theorem bytesLess_nm : ∀ (x y : List UInt8), Op.bytesLess x y = decide (x < y)
  | [], [] => by simp [Op.bytesLess]
  | _ :: _, [] => by simp [Op.bytesLess]
  | [], _ :: _ => by simp [Op.bytesLess]
  | a :: x, b :: y => by
    rw [Op.bytesLess, bytesLess_nm x y]
    simp only [List.cons_lt_cons_iff]
    by_cases h1 : a < b <;> by_cases h2 : a = b <;> by_cases h3 : x < y <;> simp [h1, h2, h3]
theorem set_done (x : ByteArray) (a b : Int) : ∀ (suf pre : List Rt) (out : List S66) (k : Nat), pre.length + suf.length ≤ 100000 → out.length + suf.length ≤ 200000 → suf.length < k →
    ecdysisref13_Set.l0 k (toS (pre ++ suf)) x out true (pre.length : Int) a b = some (out ++ toS suf, 0)
  | [], pre, out, k + 1, _, _, _ => by
    rw [ecdysisref13_Set.l0, if_neg (by rw [toS_len]; simp)]
    simp [toS]
  | q :: suf, pre, out, k + 1, hl, ho, hk => by
    have ih := set_done x a b suf (pre ++ [q]) (out ++ [toS1 q]) k (by simp at hl ⊢; omega) (by simp at ho ⊢; omega) (by simp at hk; omega)
    rw [ecdysisref13_Set.l0, if_pos (by rw [toS_len]; simp; omega), if_pos rfl, if_pos (by omega), rd_toS, if_pos (by simp at ho; omega), w64n (by simp at hl; omega)]
    have e1 : ((pre ++ [q]).length : Int) = ((pre.length + 1 : Nat) : Int) := by simp
    rw [List.append_assoc, e1] at ih
    simp only [List.cons_append, List.nil_append] at ih
    exact ih.trans (by simp [toS])
theorem set_suf (x : ByteArray) (a b : Int) : ∀ (suf pre : List Rt) (out : List S66) (k : Nat), pre.length + suf.length ≤ 100000 → out.length + suf.length + 1 ≤ 200000 → suf.length < k → getR suf x.data.toList = none →
    ecdysisref13_Set.l0 k (toS (pre ++ suf)) x out false (pre.length : Int) a b = some (out ++ toS (putR suf x.data.toList (a, b)), 0)
  | [], pre, out, k + 1, _, ho, _, _ => by
    rw [ecdysisref13_Set.l0, if_neg (by rw [toS_len]; simp), if_neg (by decide), if_pos (by simp at ho; omega)]
    simp [toS, putR, toS1]
  | q :: suf, pre, out, k + 1, hl, ho, hk, hg => by
    rw [getR] at hg
    have hq : q.1 ≠ x.data.toList := fun e => by rw [if_pos e] at hg; cases hg
    rw [if_neg hq] at hg
    have e1 : ((pre ++ [q]).length : Int) = ((pre.length + 1 : Nat) : Int) := by simp
    rw [ecdysisref13_Set.l0, if_pos (by rw [toS_len]; simp; omega), if_neg (by decide), if_pos (by omega), rd_toS, w64n (by simp at hl; omega)]
    rw [show (toS1 q).f0.toList = q.1 from nmB_list q.1, ba_list, bytesLess_nm]
    by_cases h1 : x.data.toList < q.1
    · have ih := set_done x a b suf (pre ++ [q]) ((out ++ [⟨x, ⟨a, b⟩⟩]) ++ [toS1 q]) k (by simp at hl ⊢; omega) (by simp at ho ⊢; omega) (by simp at hk; omega)
      rw [List.append_assoc pre, e1] at ih
      simp only [List.cons_append, List.nil_append] at ih
      rw [if_pos (by simpa using h1), if_pos (by simp at ho; omega)]
      simp only [Option.bind_some]
      rw [if_pos (by simp at ho ⊢; omega), putR, if_pos h1]
      exact ih.trans (by simp [toS, toS1])
    · have ih := set_suf x a b suf (pre ++ [q]) (out ++ [toS1 q]) k (by simp at hl ⊢; omega) (by simp at ho ⊢; omega) (by simp at hk; omega) hg
      rw [List.append_assoc pre, e1] at ih
      simp only [List.cons_append, List.nil_append] at ih
      rw [if_neg (by simpa using h1), if_pos (by simp at ho; omega), putR, if_neg h1, if_neg hq]
      exact ih.trans (by simp [toS])
end Go.Proofs.Ytliclajcifeneaa.Hand
namespace Go.Proofs.Ytliclajcifeneaa.Hand
set_option linter.unusedVariables false
set_option linter.unusedSimpArgs false
open Go.RowKit Go.Proofs.YtliclajcifeneaaW.PrintWords Go.Proofs.Ytliclajcifeneaa.PHandRR
set_option linter.unusedVariables false
set_option linter.unusedSimpArgs false
theorem leO_up {α : Type} {g : Nat → Option α} (hm : ∀ k, LeO (g k) (g (k + 1))) {n : Nat} {r : α} (h : g n = some r) : ∀ k, n ≤ k → g k = some r := by
  intro k hk
  obtain ⟨d, rfl⟩ := Nat.le.dest hk
  clear hk
  induction d with
  | zero => exact h
  | succ d ih => exact hm _ r ih
abbrev lets : ByteArray := ⟨#[97, 98, 99, 100, 101, 102, 103, 104, 105, 106, 107, 108, 109, 110, 111, 112, 113, 114, 115, 116, 117, 118, 119, 120, 121, 122, 48, 49, 50, 51, 52, 53, 54, 55, 56, 57, 95]⟩
def letsI : List Int := [97, 98, 99, 100, 101, 102, 103, 104, 105, 106, 107, 108, 109, 110, 111, 112, 113, 114, 115, 116, 117, 118, 119, 120, 121, 122, 48, 49, 50, 51, 52, 53, 54, 55, 56, 57, 95]
theorem lets_bytes : bytesOf lets = letsI := by kernel_rfl
theorem lets_bt (j : Int) : bt lets j = rd letsI j := by rw [← rd_bytesOf, lets_bytes]
/-- The place of a letter among all, from the j-th one on. -/
def scL (v : Int) : Nat → Nat → Int → Int
  | 0, _, d => d
  | n + 1, j, d => scL v n (j + 1) (if rd letsI (j : Int) = v then (j : Int) else d)
def scOk (v : Nat) : Bool :=
  decide ((scL v 37 0 (-1) < 0) ↔ ¬ ((97 ≤ v ∧ v ≤ 122) ∨ (48 ≤ v ∧ v ≤ 57) ∨ v = 95)) && decide ((scL v 37 0 (-1) > 25) ↔ (48 ≤ v ∧ v ≤ 57) ∨ v = 95)
theorem sc_all : (List.range 256).all scOk = true := by kernel_rfl
theorem sc_iff {v : Nat} (hv : v < 256) : (scL v 37 0 (-1) < 0 ↔ ¬ ((97 ≤ v ∧ v ≤ 122) ∨ (48 ≤ v ∧ v ≤ 57) ∨ v = 95)) ∧ (scL v 37 0 (-1) > 25 ↔ (48 ≤ v ∧ v ≤ 57) ∨ v = 95) := by
  have := List.all_eq_true.1 sc_all v (List.mem_range.2 hv)
  simpa only [scOk, Bool.and_eq_true, decide_eq_true_eq] using this
/-- What stands behind the scan of a letter. -/
def afterL (x : ByteArray) (i : Int) (m : Nat) (d : Int) : Option Bool :=
  if d < 0 then some false else if i = 0 then (if d > 25 then some false else ecdysisref06_Name.l0 m x lets (wrap64 (i + 1))) else ecdysisref06_Name.l0 m x lets (wrap64 (i + 1))
theorem scan_l (x : ByteArray) (i : Int) (h0 : 0 ≤ i) (h1 : i < x.size) (m : Nat) : ∀ (n j : Nat) (d : Int), j + n = 37 →
    ecdysisref06_Name.l1 (n + 1 + m) x lets i d (j : Int) = afterL x i m (scL (bt x i) n j d)
  | 0, j, d, hj => by
    have e : 0 + 1 + m = m + 1 := by omega
    rw [e, ecdysisref06_Name.l1, if_neg (by show ¬ (j : Int) < 37; omega)]
    rfl
  | n + 1, j, d, hj => by
    have ih := fun d => scan_l x i h0 h1 m n (j + 1) d (by omega)
    have e : n + 1 + 1 + m = (n + 1 + m) + 1 := by omega
    rw [e, ecdysisref06_Name.l1, if_pos (by show (j : Int) < 37; omega), if_pos (by omega), if_pos h0, if_pos h1, lets_bt, w64n (by omega), scL]
    split
    · exact ih _
    · exact ih _
theorem bt_mid (pre suf : Nm) (c : UInt8) : bt (nmB (pre ++ c :: suf)) (pre.length : Int) = (c.toNat : Int) := by
  rw [← rd_bytesOf]
  simp [rd, bytesOf, List.getD_eq_getElem?_getD]
theorem name_suf : ∀ (suf pre : Nm) (m : Nat), 0 < pre.length → pre.length + suf.length ≤ 100000 →
    ∃ n, ecdysisref06_Name.l0 n (nmB (pre ++ suf)) lets (pre.length : Int) = some (suf.all nameC && decide ((pre ++ suf).length < 16))
  | [], pre, m, hp, hl => ⟨1, by
    have hsz : ((nmB (pre ++ [])).size : Int) = pre.length := by rw [nmB_size]; simp
    rw [ecdysisref06_Name.l0, hsz, if_neg (by omega), if_pos (by omega)]
    simp
    omega⟩
  | c :: suf, pre, m, hp, hl => by
    obtain ⟨n, ih⟩ := name_suf suf (pre ++ [c]) m (by simp) (by simp at hl ⊢; omega)
    have hsz : ((nmB (pre ++ c :: suf)).size : Int) = ((pre.length + suf.length + 1 : Nat) : Int) := by rw [nmB_size]; simp; omega
    have e1 : ((pre ++ [c]).length : Int) = ((pre.length + 1 : Nat) : Int) := by simp
    rw [List.append_assoc, e1] at ih
    simp only [List.cons_append, List.nil_append] at ih
    refine ⟨37 + 1 + n + 1, ?_⟩
    rw [ecdysisref06_Name.l0, if_pos (by rw [hsz]; omega)]
    have hs := scan_l (nmB (pre ++ c :: suf)) (pre.length : Int) (by omega) (by rw [hsz]; omega) n 37 0 (-1) rfl
    rw [show ((0 : Nat) : Int) = 0 from rfl] at hs
    rw [hs, bt_mid, afterL]
    obtain ⟨s1, s2⟩ := sc_iff (v := c.toNat) c.toNat_lt
    have hn := nameC_iff c
    by_cases h : nameC c = true
    · rw [if_neg (by rw [s1]; intro h2; exact h2 (hn.1 h)), if_neg (by omega), w64n (by simp at hl; omega), ih]
      simp [h]
    · rw [if_pos (by rw [s1]; exact fun h2 => h (hn.2 h2))]
      simp [Bool.eq_false_iff.2 h]
theorem name_f (x : ByteArray) (hl : x.size ≤ 50000) : ∃ n, ∀ k, n ≤ k → ecdysisref06_Name.f k x = some (okName x.data.toList) := by
  suffices h : ∃ n, ecdysisref06_Name.f n x = some (okName x.data.toList) by
    obtain ⟨n, hn⟩ := h
    exact ⟨n, leO_up (fun k => ecdysisref06_Name.mono x k) hn⟩
  obtain ⟨l, rfl⟩ : ∃ l : Nm, x = nmB l := ⟨_, (nm_of x).symm⟩
  have hd : (nmB l).data.toList = l := by simp
  rw [hd]
  rw [nmB_size] at hl
  cases l with
  | nil => exact ⟨1, rfl⟩
  | cons c suf =>
    obtain ⟨n, ih⟩ := name_suf suf [c] 0 (by simp) (by simp at hl ⊢; omega)
    refine ⟨37 + 1 + n + 1, ?_⟩
    have hsz : ((nmB (c :: suf)).size : Int) = ((suf.length + 1 : Nat) : Int) := by rw [nmB_size]; simp
    rw [ecdysisref06_Name.f]
    show ecdysisref06_Name.l0 _ _ lets _ = _
    rw [ecdysisref06_Name.l0, if_pos (by rw [hsz]; omega)]
    have hs := scan_l (nmB (c :: suf)) 0 (by omega) (by rw [hsz]; omega) n 37 0 (-1) rfl
    rw [show ((0 : Nat) : Int) = 0 from rfl] at hs
    have hb : bt (nmB (c :: suf)) 0 = (c.toNat : Int) := bt_mid [] suf c
    rw [hs, hb, afterL]
    obtain ⟨s1, s2⟩ := sc_iff (v := c.toNat) c.toNat_lt
    have hn := nameC_iff c
    have hlo := lowC_iff c
    by_cases h : lowC c = true
    · have h97 := hlo.1 h
      rw [if_neg (by rw [s1]; omega), if_pos rfl, if_neg (by rw [s2]; omega), show wrap64 (0 + 1) = (([c] : Nm).length : Int) from by rw [w64 (by omega)]; rfl]
      refine ih.trans ?_
      simp [okName, h]
      by_cases h2 : suf.length < 15 <;> simp [h2] <;> omega
    · have hx : okName (c :: suf) = false := by simp [okName, Bool.eq_false_iff.2 h]
      rw [hx]
      by_cases h2 : scL (c.toNat : Int) 37 0 (-1) < 0
      · rw [if_pos h2]
      · rw [if_neg h2, if_pos rfl, if_pos]
        rw [s2]
        have := (not_congr s1).1 h2
        have h97 : ¬ (97 ≤ c.toNat ∧ c.toNat ≤ 122) := fun h3 => h (hlo.2 h3)
        omega
theorem toS_set (L : List Rt) (i : Nat) (q : Rt) : (toS L).set i (toS1 q) = toS (L.set i q) := by simp [toS, List.map_set]
theorem set_f (L : List Rt) (hg : GoodR L) (x : ByteArray) (hx : x.size ≤ 50000) (a b : Int) : ∃ n, ∀ k, n ≤ k → ecdysisref13_Set.f k (toS L) x a b = some (toS (setE L x.data.toList (a, b)).1, (setE L x.data.toList (a, b)).2) := by
  obtain ⟨n, hn⟩ := name_f x hx
  have hfew := hg.few
  refine ⟨n + 20, fun k hk => ?_⟩
  obtain ⟨k, rfl⟩ : ∃ k', k = k' + 1 := ⟨k - 1, by omega⟩
  rw [ecdysisref13_Set.f, hn (k + 1) (by omega)]
  simp only [Option.bind_some, pack_f]
  by_cases h1 : okName x.data.toList = true
  · rw [if_pos h1]
    by_cases h2 : packM a b = 0
    · rw [ecdysisref13_Set.j0, if_pos (by simp [h2]), setE, if_pos (show okName x.data.toList = false ∨ pk (a, b) = 0 from Or.inr h2)]
    · have h3 : ¬ (okName x.data.toList = false ∨ pk (a, b) = 0) := fun h => by
        rcases h with h | h
        · rw [h1] at h; cases h
        · exact h2 h
      rw [ecdysisref13_Set.j0, if_neg (by simp [h2]), find_f L x k (by omega) (by omega), setE, if_neg h3]
      simp only [Option.bind_some]
      cases hgt : getR L x.data.toList with
      | some g =>
        obtain ⟨i1, i2⟩ := idx_some hgt
        have hf : findI L x.data.toList = (idxR L x.data.toList : Int) := by simp [findI, hgt]
        rw [hf, if_pos (by omega), if_pos (by simp [toS_len]; omega)]
        simp only [List.nil_append, Option.bind_some]
        rw [if_pos (by omega), if_pos (by rw [toS_len]; omega), if_neg (by simp), put_idx hg.sorted hgt, ← toS_set]
        simp [toS1, nm_of]
      | none =>
        have hf : findI L x.data.toList = -1 := by simp [findI, hgt]
        rw [hf, if_neg (by omega), toS_len]
        by_cases h16 : 16 ≤ L.length
        · rw [if_pos (by omega), if_pos ⟨rfl, h16⟩]
        · rw [if_neg (by omega), if_neg (fun h => h16 h.2)]
          have := set_suf x a b L [] [] k (by simp; omega) (by simp; omega) (by omega) hgt
          simp only [List.length_nil, List.nil_append] at this
          exact this
  · have h1' : okName x.data.toList = false := Bool.eq_false_iff.2 h1
    rw [if_neg h1, ecdysisref13_Set.j0, if_pos rfl, setE, if_pos (Or.inl h1')]
theorem toS_take (L : List Rt) (n : Nat) : (toS L).take n = toS (L.take n) := by simp [toS, List.map_take]
theorem toS_drop (L : List Rt) (n : Nat) : (toS L).drop n = toS (L.drop n) := by simp [toS, List.map_drop]
theorem clear_f (L : List Rt) (hg : GoodR L) (x : ByteArray) : ∀ k, 20 ≤ k → ecdysisref13_Clear.f k (toS L) x = some (toS (clearE L x.data.toList).1, (clearE L x.data.toList).2) := by
  have hfew := hg.few
  intro k hk
  rw [ecdysisref13_Clear.f, find_f L x k (by omega) (by omega)]
  simp only [Option.bind_some]
  cases hgt : getR L x.data.toList with
  | none =>
    have hf : findI L x.data.toList = -1 := by simp [findI, hgt]
    rw [hf, if_pos (by omega), clearE, hgt, if_neg (by simp)]
  | some g =>
    obtain ⟨i1, i2⟩ := idx_some hgt
    have hf : findI L x.data.toList = (idxR L x.data.toList : Int) := by simp [findI, hgt]
    have hw : wrap64 ((idxR L x.data.toList : Int) + 1) = ((idxR L x.data.toList + 1 : Nat) : Int) := w64n (by omega)
    rw [hf, if_neg (by omega), if_pos (by omega), if_pos (by rw [toS_len]; omega), if_pos (by simp [toS_len]; omega)]
    simp only [Option.bind_some, List.nil_append, hw, Int.toNat_natCast]
    rw [if_pos (by omega), if_pos (by rw [toS_len]; omega), if_pos (by simp [toS_len]; omega), clearE, hgt, if_pos (show (some g).isSome = true from rfl), toS_take, toS_drop, ← toS_app, ← del_idx]
theorem do_f (L : List Rt) (hg : GoodR L) (kind : Int) (x : ByteArray) (hx : x.size ≤ 50000) (a b : Int) :
    ∃ n, ∀ k, n ≤ k → ecdysisref13_Do.f k (toS L) kind x a b = some (toS (doE L kind x.data.toList (a, b)).1, (doE L kind x.data.toList (a, b)).2.1.1, (doE L kind x.data.toList (a, b)).2.1.2, (doE L kind x.data.toList (a, b)).2.2) := by
  have hfew := hg.few
  obtain ⟨n, hn⟩ := set_f L hg x hx a b
  refine ⟨n + 20, fun k hk => ?_⟩
  rw [ecdysisref13_Do.f, doE]
  by_cases h0 : kind = 0
  · rw [if_pos h0, if_pos h0, hn k (by omega)]; rfl
  · rw [if_neg h0, if_neg h0]
    by_cases h1 : kind = 1
    · rw [if_pos h1, if_pos h1, clear_f L hg x k (by omega)]; rfl
    · rw [if_neg h1, if_neg h1]
      by_cases h2 : kind = 2
      · rw [if_pos h2, if_pos h2, find_f L x k (by omega) (by omega)]
        simp only [Option.bind_some]
        cases hgt : getR L x.data.toList with
        | none =>
          have hf : findI L x.data.toList = -1 := by simp [findI, hgt]
          rw [hf, if_pos (by omega), getE, hgt]
        | some g =>
          obtain ⟨i1, i2⟩ := idx_some hgt
          have hf : findI L x.data.toList = (idxR L x.data.toList : Int) := by simp [findI, hgt]
          have hr : rd_T66 (toS L) (idxR L x.data.toList : Int) = toS1 (x.data.toList, g) := by
            simp [rd_T66, toS, List.getD_eq_getElem?_getD, i2]
          rw [hf, if_neg (by omega), if_pos (by omega), if_pos (by rw [toS_len]; omega), hr, getE, hgt]
          rfl
      · rw [if_neg h2, if_neg h2]
end Go.Proofs.Ytliclajcifeneaa.Hand
namespace Go.Proofs.Ytliclajcifeneaa.Hand
set_option linter.unusedVariables false
set_option linter.unusedSimpArgs false
open Go.RowKit Go.Lib Go.Proofs.YtliclajcifeneaaW.PrintWords Go.Proofs.Ytliclajcifeneaa.PHandRR
set_option linter.unusedVariables false
set_option linter.unusedSimpArgs false
theorem mem_compact_at {xs : List Int} {x : Int} (j : Nat) : xs[j]? = some x → x ∈ compact xs := by
  induction j using Nat.strongRecOn with
  | _ j ih =>
    intro hj
    obtain ⟨hlt, he⟩ := List.getElem?_eq_some_iff.1 hj
    by_cases hk : keeps xs.toArray j = true
    · rw [compact, compactUpTo]
      exact List.mem_map.2 ⟨j, List.mem_filter.2 ⟨List.mem_range.2 hlt, hk⟩, by simp [hlt, he]⟩
    · simp only [keeps, decide_eq_true_eq, not_or, ne_eq, Decidable.not_not] at hk
      have h2 : j - 1 < xs.length := by omega
      have e1 : xs.toArray[j]! = xs[j] := by simp [hlt]
      have e2 : xs.toArray[j - 1]! = xs[j - 1] := by simp [h2]
      rw [e1, e2] at hk
      refine ih (j - 1) (by omega) ?_
      rw [List.getElem?_eq_getElem h2, ← hk.2, he]
theorem mem_compact {xs : List Int} {x : Int} (h : x ∈ xs) : x ∈ compact xs := by
  obtain ⟨j, hj⟩ := List.mem_iff_getElem?.1 h
  exact mem_compact_at j hj
theorem compact_asc {xs : List Int} (h : xs.Pairwise (fun a b => a ≤ b)) : (compact xs).Pairwise (fun a b => a < b) := by
  rw [compact, compactUpTo, List.pairwise_map]
  have hr : ((List.range xs.length).filter (keeps xs.toArray)).Pairwise (fun a b => a < b ∧ b < xs.length ∧ keeps xs.toArray b = true) := by
    refine List.Pairwise.filter _ ?_ |>.imp_of_mem (fun {a b} ha hb hab => ?_) (R := fun a b => a < b)
    · exact List.pairwise_lt_range
    · have h1 := List.mem_filter.1 hb
      exact ⟨hab, List.mem_range.1 h1.1, h1.2⟩
  refine hr.imp (fun {a b} hab => ?_)
  obtain ⟨h1, h2, h3⟩ := hab
  simp only [keeps, decide_eq_true_eq] at h3
  have hb1 : b - 1 < xs.length := by omega
  have ha : a < xs.length := by omega
  have e1 : xs.toArray[b]! = xs[b] := by simp [h2]
  have e2 : xs.toArray[b - 1]! = xs[b - 1] := by simp [hb1]
  have e3 : xs.toArray[a]! = xs[a] := by simp [ha]
  rw [e1, e2] at h3
  rw [e1, e3]
  have hp := List.pairwise_iff_getElem.1 h
  have h4 : xs[b - 1] ≤ xs[b] := hp (b - 1) b hb1 h2 (by omega)
  have h5 : xs[a] ≤ xs[b - 1] := by
    by_cases e : a = b - 1
    · simp only [e]; exact Int.le_refl _
    · exact hp a (b - 1) ha hb1 (by omega)
  rcases h3 with h3 | h3
  · omega
  · have := Ne.symm h3
    omega
theorem sortU_asc (xs : List Int) : (sortU xs).Pairwise (fun a b => a ≤ b) := by
  have h := List.pairwise_mergeSort (le := fun x y : Int => decide (x ≤ y)) (fun a b c h1 h2 => by simp only [decide_eq_true_eq] at *; omega) (fun a b => by simp only [Bool.or_eq_true, decide_eq_true_eq]; omega) xs
  exact h.imp (fun {a b} h => by simpa using h)
theorem hsL_asc (L : List Rt) : (hsL L).Pairwise (fun a b => a < b) := compact_asc (sortU_asc _)
theorem hsL_iff (L : List Rt) (x : Int) : x ∈ hsL L ↔ ∃ q ∈ L, x = pk q.2 := by
  constructor
  · exact hsL_mem
  · rintro ⟨q, hq, rfl⟩
    exact mem_compact ((List.mergeSort_perm _ _).mem_iff.2 (List.mem_map.2 ⟨q, hq, rfl⟩))
/-- The least number above the last one. -/
def nxt : List Rt → Int → Int → Int
  | [], _, n => n
  | q :: l, last, n => nxt l last (if pk q.2 > last then (if n = 0 then pk q.2 else if pk q.2 < n then pk q.2 else n) else n)
theorem unpack_pk (a b : Int) (h : packM a b ≠ 0) : unpackM (packM a b) = (a, b) := by
  by_cases hc : 0 ≤ a ∧ a < 65536 ∧ 1 ≤ b ∧ b ≤ 65535
  · rw [packM_yes hc, unpackM, if_pos (by omega)]
    congr 1 <;> omega
  · exact absurd (packM_no hc) h
theorem unpack_f (a b : Int) (h : packM a b ≠ 0) : ecdysisref11_Unpack.f (packM a b) = some (a, b) := by
  by_cases hc : 0 ≤ a ∧ a < 65536 ∧ 1 ≤ b ∧ b ≤ 65535
  · rw [packM_yes hc] at h ⊢
    have e1 : wrap64 (Int.tmod (IntKind.u64.wrap (Int.tdiv (a * 65536 + b) 65536)) 65536) = a := by
      rw [Int.tdiv_eq_ediv_of_nonneg (by omega), show (a * 65536 + b) / 65536 = a by omega, u64_wrap_of (by omega) (by omega), Int.tmod_eq_emod_of_nonneg (by omega), w64 (by omega)]
      omega
    have e2 : wrap64 (Int.tmod (a * 65536 + b) 65536) = b := by
      rw [Int.tmod_eq_emod_of_nonneg (by omega), w64 (by omega)]
      omega
    rw [ecdysisref11_Unpack.f, if_neg h, e1, e2, pack_f, packM_yes hc]
    simp
  · exact absurd (packM_no hc) h
def aftH (L : List Rt) (out : List S29) (m : Nat) (r : Int) : Option (List S29) :=
  if r = 0 then some out else (ecdysisref11_Unpack.f r).bind fun bt433 => (if out.length < 8796093022208 then (ecdysisref13_Handles.l0 m (toS L) (out ++ [(⟨bt433.1, bt433.2⟩ : S29)]) r) else none)
theorem inner_h (out : List S29) (last : Int) (m : Nat) : ∀ (suf pre : List Rt) (n : Int), pre.length + suf.length ≤ 100000 →
    ecdysisref13_Handles.l1 (suf.length + 1 + m) (toS (pre ++ suf)) out last n (pre.length : Int) = aftH (pre ++ suf) out m (nxt suf last n)
  | [], pre, n, hl => by
    have e : ([] : List Rt).length + 1 + m = m + 1 := by simp; omega
    rw [e, ecdysisref13_Handles.l1, if_neg (by rw [toS_len]; simp)]
    rfl
  | q :: suf, pre, n, hl => by
    have ih := fun n => inner_h out last m suf (pre ++ [q]) n (by simp at hl ⊢; omega)
    have e1 : ((pre ++ [q]).length : Int) = ((pre.length + 1 : Nat) : Int) := by simp
    simp only [List.append_assoc, e1, List.cons_append, List.nil_append] at ih
    have e : (q :: suf).length + 1 + m = (suf.length + 1 + m) + 1 := by simp; omega
    rw [e, ecdysisref13_Handles.l1, if_pos (by rw [toS_len]; simp; omega), if_pos (by omega), rd_toS, w64n (by simp at hl; omega)]
    simp only [toS1, pack_f, Option.bind_some, ih]
    rw [nxt, show packM q.2.1 q.2.2 = pk q.2 from rfl]
    split
    · split
      · rfl
      · split <;> rfl
    · rfl
theorem nxt_spec (last : Int) : ∀ (suf : List Rt) (n : Int), (∀ q ∈ suf, 0 < pk q.2) → 0 ≤ last → (n = 0 ∨ n > last) →
    ((nxt suf last n = 0 ↔ n = 0 ∧ ∀ q ∈ suf, pk q.2 ≤ last) ∧ (nxt suf last n ≠ 0 → nxt suf last n > last ∧ (nxt suf last n = n ∨ ∃ q ∈ suf, nxt suf last n = pk q.2) ∧ (n ≠ 0 → nxt suf last n ≤ n) ∧ ∀ q ∈ suf, pk q.2 > last → nxt suf last n ≤ pk q.2))
  | [], n, _, _, hn => by
    simp only [nxt]
    refine ⟨by simp, fun h => ⟨by omega, Or.inl (by trivial), fun _ => Int.le_refl _, fun q hq => by cases hq⟩⟩
  | q :: suf, n, hp, hl, hn => by
    have hq := hp q (List.mem_cons_self ..)
    obtain ⟨m, hm⟩ : ∃ m, m = (if pk q.2 > last then (if n = 0 then pk q.2 else if pk q.2 < n then pk q.2 else n) else n) := ⟨_, rfl⟩
    have hm2 : (pk q.2 > last ∧ (n = 0 ∨ pk q.2 < n) ∧ m = pk q.2) ∨ (¬ (pk q.2 > last ∧ (n = 0 ∨ pk q.2 < n)) ∧ m = n) := by
      rw [hm]
      by_cases h1 : pk q.2 > last
      · rw [if_pos h1]
        by_cases h2 : n = 0
        · rw [if_pos h2]; exact Or.inl ⟨h1, Or.inl h2, rfl⟩
        · rw [if_neg h2]
          by_cases h3 : pk q.2 < n
          · rw [if_pos h3]; exact Or.inl ⟨h1, Or.inr h3, rfl⟩
          · rw [if_neg h3]; exact Or.inr ⟨by omega, rfl⟩
      · rw [if_neg h1]; exact Or.inr ⟨by omega, rfl⟩
    have ih := nxt_spec last suf m (fun p hp2 => hp p (List.mem_cons_of_mem _ hp2)) hl (by omega)
    rw [nxt, ← hm]
    clear hm
    obtain ⟨i1, i2⟩ := ih
    refine ⟨⟨fun h => ?_, fun h => ?_⟩, fun h => ?_⟩
    · obtain ⟨a1, a2⟩ := i1.1 h
      refine ⟨by omega, fun p hp2 => ?_⟩
      rcases List.mem_cons.1 hp2 with rfl | hp2
      · omega
      · exact a2 p hp2
    · have h3 := h.2 q (List.mem_cons_self ..)
      exact i1.2 ⟨by omega, fun p hp2 => h.2 p (List.mem_cons_of_mem _ hp2)⟩
    · obtain ⟨b1, b2, b3, b4⟩ := i2 h
      refine ⟨b1, ?_, fun h0 => ?_, fun p hp2 hgt => ?_⟩
      · rcases b2 with b2 | ⟨p, hp2, b2⟩
        · rcases hm2 with hm2 | hm2
          · exact Or.inr ⟨q, List.mem_cons_self .., by rw [b2, hm2.2.2]⟩
          · exact Or.inl (by rw [b2, hm2.2])
        · exact Or.inr ⟨p, List.mem_cons_of_mem _ hp2, b2⟩
      · clear b2 i1 i2 b4
        by_cases hm0 : m = 0
        · omega
        · have := b3 hm0; omega
      · clear b2 i1 i2
        rcases List.mem_cons.1 hp2 with rfl | hp2
        · by_cases hm0 : m = 0
          · omega
          · have := b3 hm0; omega
        · exact b4 p hp2 hgt
theorem asc_get {S : List Int} (h : S.Pairwise (fun a b => a < b)) {i j : Nat} {x y : Int} (hx : S[i]? = some x) (hy : S[j]? = some y) : (i < j → x < y) ∧ (i = j → x = y) ∧ (x < y → i < j) := by
  obtain ⟨h1, e1⟩ := List.getElem?_eq_some_iff.1 hx
  obtain ⟨h2, e2⟩ := List.getElem?_eq_some_iff.1 hy
  have hp := List.pairwise_iff_getElem.1 h
  refine ⟨fun hij => by rw [← e1, ← e2]; exact hp i j h1 h2 hij, fun e => by subst e; rw [← e1, ← e2], fun hxy => ?_⟩
  rcases Nat.lt_trichotomy i j with h3 | h3 | h3
  · exact h3
  · subst h3; rw [e1] at e2; omega
  · have := hp j i h2 h1 h3; omega
/-- The next number is the next one of all. -/
theorem nxt_get (L : List Rt) (hp : ∀ q ∈ L, 0 < pk q.2) (j : Nat) (last : Int) (h0 : 0 ≤ last) (hj : j ≤ (hsL L).length) (hlast : (j = 0 ∧ last = 0) ∨ (0 < j ∧ (hsL L)[j - 1]? = some last)) :
    nxt L last 0 = (hsL L).getD j 0 := by
  obtain ⟨s1, s2⟩ := nxt_spec last L 0 hp h0 (Or.inl rfl)
  have ha := hsL_asc L
  have hiff := hsL_iff L
  by_cases hlt : j < (hsL L).length
  · have hg : (hsL L)[j]? = some ((hsL L)[j]) := List.getElem?_eq_getElem hlt
    obtain ⟨x, hx⟩ : ∃ x, (hsL L)[j]? = some x := ⟨_, hg⟩
    rw [List.getD_eq_getElem?_getD, hx, Option.getD_some]
    obtain ⟨q, hq, hqx⟩ := (hiff x).1 (List.mem_of_getElem? hx)
    have hxl : x > last := by
      rcases hlast with h | h
      · have := hp q hq; omega
      · exact (asc_get ha h.2 hx).1 (by omega)
    have hn : nxt L last 0 ≠ 0 := fun h => by
      have := (s1.1 h).2 q hq
      omega
    obtain ⟨b1, b2, _, b4⟩ := s2 hn
    have h1 := b4 q hq (by omega)
    rcases b2 with b2 | ⟨q2, hq2, b2⟩
    · exact absurd b2 hn
    · obtain ⟨i, hi⟩ := List.mem_iff_getElem?.1 ((hiff (pk q2.2)).2 ⟨q2, hq2, rfl⟩)
      have hij : j ≤ i := by
        rcases hlast with h | h
        · omega
        · have := (asc_get ha h.2 hi).2.2 (by omega)
          omega
      have h3 := asc_get ha hx hi
      by_cases e : j = i
      · have := h3.2.1 e; omega
      · have := h3.1 (by omega); omega
  · rw [List.getD_eq_getElem?_getD, List.getElem?_eq_none (by omega), Option.getD_none]
    refine s1.2 ⟨rfl, fun q hq => ?_⟩
    obtain ⟨i, hi⟩ := List.mem_iff_getElem?.1 ((hiff (pk q.2)).2 ⟨q, hq, rfl⟩)
    have hil := (List.getElem?_eq_some_iff.1 hi).1
    rcases hlast with h | h
    · omega
    · have h3 := asc_get ha hi h.2
      by_cases e : i = j - 1
      · have := h3.2.1 e; omega
      · have := h3.1 (by omega); omega
theorem hsL_len (L : List Rt) : (hsL L).length ≤ L.length := Nat.le_trans (ddU_le _) (by rw [sortU_len, List.length_map]; exact Nat.le_refl _)
theorem outer_h (L : List Rt) (hl : L.length ≤ 1000) (hp : ∀ q ∈ L, 0 < pk q.2) : ∀ (n j : Nat) (last : Int), n + j = (hsL L).length → 0 ≤ last → ((j = 0 ∧ last = 0) ∨ (0 < j ∧ (hsL L)[j - 1]? = some last)) →
    ecdysisref13_Handles.l0 ((n + 1) * (L.length + 2)) (toS L) (hsS ((hsL L).take j)) last = some (hsS (hsL L))
  | n, j, last, hn, h0, hlast => by
    have hlen := hsL_len L
    obtain ⟨m, hm⟩ : ∃ m, (n + 1) * (L.length + 2) = (L.length + 1 + m) + 1 ∧ m = n * (L.length + 2) := ⟨n * (L.length + 2), by rw [Nat.add_mul]; omega, rfl⟩
    rw [hm.1, ecdysisref13_Handles.l0]
    have hi := inner_h (hsS ((hsL L).take j)) last m L [] 0 (by simp; omega)
    simp only [List.length_nil, List.nil_append] at hi
    rw [show ((0 : Nat) : Int) = 0 from rfl] at hi
    rw [hi, nxt_get L hp j last h0 (by omega) hlast, aftH]
    by_cases hlt : j < (hsL L).length
    · obtain ⟨x, hx⟩ : ∃ x, (hsL L)[j]? = some x := ⟨_, List.getElem?_eq_getElem hlt⟩
      obtain ⟨q, hq, hqx⟩ := (hsL_iff L x).1 (List.mem_of_getElem? hx)
      have hpq := hp q hq
      rw [List.getD_eq_getElem?_getD, hx, Option.getD_some, if_neg (by omega), hqx, show pk q.2 = packM q.2.1 q.2.2 from rfl, unpack_f _ _ (by have : packM q.2.1 q.2.2 = pk q.2 := rfl; omega)]
      simp only [Option.bind_some]
      rw [if_pos (by simp [hsS]; omega)]
      have e := hsS_take hx
      have hu : unpackM x = (q.2.1, q.2.2) := by rw [hqx]; exact unpack_pk _ _ (by have : packM q.2.1 q.2.2 = pk q.2 := rfl; omega)
      rw [hu] at e
      rw [e]
      cases n with
      | zero => omega
      | succ n =>
        rw [hm.2]
        exact outer_h L hl hp n (j + 1) _ (by omega) (by have : packM q.2.1 q.2.2 = pk q.2 := rfl; omega) (Or.inr ⟨by omega, by rw [Nat.add_sub_cancel, hx, hqx]; rfl⟩)
    · rw [List.getD_eq_getElem?_getD, List.getElem?_eq_none (by omega), Option.getD_none, if_pos rfl, List.take_of_length_le (by omega)]
theorem pk_pos {L : List Rt} (hg : GoodR L) : ∀ q ∈ L, 0 < pk q.2 := fun q hq => by
  have h1 := (hg.each q hq).2
  have h2 := pk_range q.2
  omega
theorem handles_f (L : List Rt) (hg : GoodR L) : ∃ n, ecdysisref13_Handles.f n (toS L) = some (hsS (hsL L)) := by
  refine ⟨((hsL L).length + 1) * (L.length + 2), ?_⟩
  have := outer_h L (by have := hg.few; omega) (pk_pos hg) (hsL L).length 0 0 (by omega) (by omega) (Or.inl ⟨rfl, rfl⟩)
  rw [ecdysisref13_Handles.f]
  exact this
theorem same_suf : ∀ (suf pre : List S29) (k : Nat), pre.length + suf.length ≤ 100000 → suf.length < k → ecdysisref13_Same.l0 k (pre ++ suf) (pre ++ suf) (pre.length : Int) = some true
  | [], pre, k + 1, hl, hk => by rw [ecdysisref13_Same.l0, if_neg (by simp)]
  | x :: suf, pre, k + 1, hl, hk => by
    have ih := same_suf suf (pre ++ [x]) k (by simp at hl ⊢; omega) (by simp at hk; omega)
    have e1 : ((pre ++ [x]).length : Int) = ((pre.length + 1 : Nat) : Int) := by simp
    rw [List.append_assoc, e1] at ih
    simp only [List.cons_append, List.nil_append] at ih
    rw [ecdysisref13_Same.l0, if_pos (by simp; omega), if_pos (by omega), if_pos (by simp; omega), if_neg (by simp), w64n (by simp at hl; omega), ih]
theorem same_f (xs : List S29) (hl : xs.length ≤ 100000) : ∀ k, xs.length < k → ecdysisref13_Same.f k xs xs = some true := fun k hk => by
  rw [ecdysisref13_Same.f, if_pos rfl]
  exact same_suf xs [] k (by simpa using hl) hk
end Go.Proofs.Ytliclajcifeneaa.Hand
namespace Go.Proofs.Ytliclajcifeneaa.Hand
set_option linter.unusedVariables false
set_option linter.unusedSimpArgs false
open Go.RowKit Go.Proofs.YtliclajcifeneaaW.PrintWords Go.Proofs.Ytliclajcifeneaa.PHandRR
set_option linter.unusedVariables false
set_option linter.unusedSimpArgs false
theorem list4r {α : Type} {l : List α} (h : l.length = 4) : ∃ a b c d, l = [a, b, c, d] := by
  match l, h with
  | [a, b, c, d], _ => exact ⟨a, b, c, d, rfl⟩
theorem hd_el {H : Type} {enc : TypeId × Value → H} {w : World} {base : Nat} {spare : Nat → Bool} {held : Bool} {n : Nat} {cs : List Value} {y : DataW H × List MemPlace} (h : DataW.trod enc Try.prog w base spare held n 29 cs = some y) : ∃ a b : Int, cs = [.int .i64 a, .int .i64 b] := by
  obtain ⟨y0, y1, m, _, hlen, h0, h1⟩ := Go.ChangeShapes.trod_struct2 Try.underlying29 h
  rw [show Try.prog.cellsOf 29 = 2 by kernel_rfl] at hlen
  rw [show Try.prog.cellsOf 3 = 1 by kernel_rfl] at h0 h1
  match cs, hlen with
  | [u, v], _ =>
    obtain ⟨q, e0, _, _⟩ := DataW.trod_int Try.underlying3 h0
    obtain ⟨s, e1, _, _⟩ := DataW.trod_int Try.underlying3 h1
    simp at e0 e1
    exact ⟨q, s, by rw [e0, e1]⟩
theorem opR_el {H : Type} {enc : TypeId × Value → H} {w : World} {base : Nat} {spare : Nat → Bool} {held : Bool} {n : Nat} {cs : List Value} {y : DataW H × List MemPlace} (h : DataW.trod enc Try.prog w base spare held n 31 cs = some y) :
    ∃ x : S31, cs = [.int .i64 x.f0, .string x.f1, .int .i64 x.f2.f0, .int .i64 x.f2.f1] ∧ ∀ N, (∀ k ∈ y.1.weights Try.prog 31, k ≤ N) → x.f1.size ≤ N := by
  obtain ⟨y0, y1, y2, m, hy, hlen, h0, h1, h2⟩ := Go.Deep.trod_struct3 Try.underlying31 h
  rw [show Try.prog.cellsOf 31 = 4 by kernel_rfl] at hlen
  rw [show Try.prog.cellsOf 3 = 1 by kernel_rfl] at h0
  rw [show Try.prog.cellsOf 9 = 1 by kernel_rfl] at h1
  rw [show Try.prog.cellsOf 29 = 2 by kernel_rfl] at h2
  obtain ⟨c0, c1, c2, c3, rfl⟩ := list4r hlen
  obtain ⟨q, e0, _, _⟩ := DataW.trod_int Try.underlying3 h0
  obtain ⟨s, e1, e1d, _⟩ := DataW.trod_string Try.underlying9 h1
  obtain ⟨a, b, e2⟩ := hd_el h2
  simp at e0 e1 e2
  obtain ⟨e2, e3⟩ := e2
  subst e0 e1 e2 e3
  refine ⟨⟨q, s, ⟨a, b⟩⟩, rfl, fun N hN => ?_⟩
  refine hN s.size ?_
  rw [hy]
  simp [DataW.weights, DataW.weightsEach, Try.underlying31, e1d]
theorem mem_weightsAll {H : Type} {P : Program} {e : TypeId} : ∀ {ds : List (DataW H)} {d : DataW H}, d ∈ ds → ∀ n ∈ d.weights P e, n ∈ DataW.weightsAll P e ds
  | d0 :: r, d, hd, n, hn => by
    rw [DataW.weightsAll, List.mem_append]
    rcases List.mem_cons.1 hd with rfl | hd
    · exact Or.inl hn
    · exact Or.inr (mem_weightsAll hd n hn)
theorem sized_rowR {H : Type} {enc : TypeId × Value → H} {P : Program} {W : World} {base : Nat} {spare : Nat → Bool} {held : Bool} {t e : TypeId} {a : Option Addr} {len cap : Nat} {d : DataW H} {ps : List MemPlace} {ts : List TypeId} {ds : List (DataW H)} {j : Nat}
    (hsz : (DataW.weightsEach P ts ds).all (· ≤ reachBytes) = true) (ht : ts[j]? = some t) (hd : ds[j]? = some d) (hu : P.underlying t = some (.slice e)) {B : Nat} (hB : P.bytesOf e = B)
    (h : DataW.Trod enc P W base spare held t (.slice a len cap) d ps) : len * B ≤ 140737488351232 := by
  obtain ⟨fuel, hf⟩ := h
  rcases Go.Deep.open_slice hu hf with ⟨hcs, _⟩ | ⟨x, l, c, m, n, D, Pl, hcs, _, hl, _, hm, hx, _⟩
  · simp [Value.cells] at hcs
    obtain ⟨rfl, rfl, rfl⟩ := hcs
    simp
  · simp [Value.cells] at hcs
    obtain ⟨rfl, rfl, rfl⟩ := hcs
    obtain ⟨hx, _⟩ := Prod.mk.inj hx
    subst hx
    have z := sized_slice hsz ht hd hu
    rw [hB, List.length_map, List.length_range, List.length_map, List.length_range] at z
    exact Nat.le_trans (Nat.mul_le_mul_right _ (by omega)) z
/-- A script in memory. -/
structure OpsR (w : World) (A : Option Addr) (cap : Nat) (os : List S31) : Prop where
  row : Kd.C k31 w A os.length os
  cap : os.length ≤ cap
  len : os.length ≤ 140737488351232
  each : ∀ o ∈ os, o.f1.size ≤ 140737488351232
theorem OpsR.below {w w1 : World} {A : Option Addr} {cap : Nat} {os : List S31} (h : OpsR w A cap os) (hb : Below w.heap.size w w1) : OpsR w1 A cap os := ⟨Kd.C_below h.row hb, h.cap, h.len, h.each⟩
theorem open_opsR {H : Type} {enc : TypeId × Value → H} {w : World} {spare : Nat → Bool} {held : Bool} {A : Option Addr} {len cap : Nat} {d : DataW H} {ps : List MemPlace} {ts : List TypeId} {ds : List (DataW H)} {j : Nat}
    (hsz : (DataW.weightsEach Try.prog ts ds).all (· ≤ reachBytes) = true) (ht : ts[j]? = some 22) (hd : ds[j]? = some d)
    (h : DataW.Trod enc Try.prog w 0 spare held 22 (.slice A len cap) d ps) : ∃ os : List S31, len = os.length ∧ OpsR w A cap os := by
  have hbnd := sized_rowR (B := 40) hsz ht hd Try.underlying22 (by kernel_rfl) h
  obtain ⟨fuel, hf⟩ := h
  rcases Go.Deep.open_slice Try.underlying22 hf with ⟨hcs, _⟩ | ⟨a, l, c, m, n, D, Pl, hcs, _, hlc, hm, hmm, hxd, hx⟩
  · simp [Value.cells] at hcs
    obtain ⟨rfl, rfl, rfl⟩ := hcs
    exact ⟨[], rfl, ⟨rfl, by simp, fun h => absurd h (by simp)⟩, by simp, by simp, fun x hx => absurd hx (by simp)⟩
  · simp [Value.cells] at hcs
    obtain ⟨rfl, rfl, rfl⟩ := hcs
    have hdd : d = .slice ((List.range len).map D) ((List.range (m - len)).map fun j => D (len + j)) := (Prod.mk.inj hxd).1
    have hw : ∀ i, i < len → ∀ k ∈ (D i).weights Try.prog 31, k ≤ 140737488351232 := fun i hi k hk => by
      have := List.all_eq_true.1 hsz _ (DataW.weights_mem_each ht hd k (by
        rw [hdd, DataW.weights, Try.underlying22]
        refine List.mem_cons_of_mem _ (List.mem_append.2 (Or.inl (mem_weightsAll (d := D i) (List.mem_map.2 ⟨i, List.mem_range.2 hi, rfl⟩) k hk))))) 
      have h2 : k ≤ reachBytes := by simpa using this
      exact h2
    have hlm : len ≤ m := by rw [hmm]; split <;> omega
    have hsz4 : Try.prog.cellsOf 31 = 4 := by kernel_rfl
    obtain ⟨L, hL, hLx⟩ := rows_of (w := w) (a := a) (k := len) (sz := 4) (encA := fun x : S31 => [.int .i64 x.f0, .string x.f1, .int .i64 x.f2.f0, .int .i64 x.f2.f1]) (Wf := fun x : S31 => x.f1.size ≤ 140737488351232) (fun i hi => by
      obtain ⟨cs', h2, h3⟩ := hx i (by omega)
      obtain ⟨x, rfl, hxw⟩ := opR_el h3
      rw [hsz4] at h2
      obtain ⟨_, _, hc⟩ := World.cells?_some h2
      exact ⟨x, hxw _ (hw i hi), fun j hj => by rw [← add_add]; exact hc j hj⟩)
    refine ⟨L, hL.symm, ⟨rfl, by rw [hL]; simp only [maxLen] at hm; omega, fun _ => ⟨a, rfl, fun i x hix => ?_⟩⟩, by omega, by omega, fun x hx => ?_⟩
    · obtain ⟨_, hc⟩ := hLx i x hix
      refine ⟨_, rfl, k31_mk w x, fun j u hu => ?_⟩
      rw [← hu]
      exact hc j (by have := (List.getElem?_eq_some_iff.1 hu).1; simpa using this)
    · obtain ⟨i, hi⟩ := List.getElem?_of_mem hx
      exact (hLx i x hi).1
/-- How many letters all names have. -/
def nmSum (os : List S31) : Int := (os.map fun o => (o.f1.size : Int)).sum
theorem few_suf (N : Int) (hN : N ≤ 100) : ∀ (suf pre : List S31) (n : Int) (k : Nat), ((pre ++ suf).length : Int) = N → suf.length < k → 0 ≤ n → n ≤ 140737488351232 * (pre.length : Int) → (∀ o ∈ suf, o.f1.size ≤ 140737488351232) →
    ecdysislaw13_few.l0 k (pre ++ suf) n (pre ++ suf) N (pre.length : Int) = some (decide (n + nmSum suf ≤ 5000))
  | [], pre, n, k + 1, hl, hk, h0, h1, _ => by
    simp only [List.append_nil] at hl ⊢
    rw [ecdysislaw13_few.l0, if_neg (by omega), if_pos (by omega)]
    simp [nmSum]
  | o :: suf, pre, n, k + 1, hl, hk, h0, h1, hs => by
    have hlp : (pre.length : Int) < N := by rw [← hl]; simp; omega
    have ho := hs o (List.mem_cons_self ..)
    have hrd : rd_T31 (pre ++ o :: suf) (pre.length : Int) = o := by simp [rd_T31, List.getD_eq_getElem?_getD]
    have ih := few_suf N hN suf (pre ++ [o]) (n + o.f1.size) k (by rw [← hl]; simp) (by simp at hk; omega) (by omega) (by simp; omega) (fun p hp => hs p (List.mem_cons_of_mem _ hp))
    have e1 : ((pre ++ [o]).length : Int) = ((pre.length + 1 : Nat) : Int) := by simp
    rw [List.append_assoc, e1] at ih
    simp only [List.cons_append, List.nil_append] at ih
    rw [ecdysislaw13_few.l0, if_pos hlp, if_pos (by omega), if_pos (by rw [hl]; exact hlp), hrd, w64n (by omega), w64 (by omega), ih]
    have : nmSum (o :: suf) = o.f1.size + nmSum suf := by simp [nmSum]
    rw [this]
    congr 2
    rw [Int.add_assoc]
theorem few_any : ∀ (suf pre : List S31) (n : Int) (k : Nat), suf.length < k → pre.length + suf.length ≤ 9223372036854775000 → 100 < (pre ++ suf).length →
    ecdysislaw13_few.l0 k (pre ++ suf) n (pre ++ suf) ((pre ++ suf).length : Int) (pre.length : Int) = some false
  | [], pre, n, k + 1, hk, hl, h1 => by
    rw [ecdysislaw13_few.l0, if_neg (by simp), if_neg (by omega)]
  | o :: suf, pre, n, k + 1, hk, hl, h1 => by
    have hrd : rd_T31 (pre ++ o :: suf) (pre.length : Int) = o := by simp [rd_T31, List.getD_eq_getElem?_getD]
    have ih := few_any suf (pre ++ [o]) (wrap64 (n + o.f1.size)) k (by simp at hk; omega) (by simp at hl ⊢; omega) (by simpa using h1)
    have e1 : ((pre ++ [o]).length : Int) = ((pre.length + 1 : Nat) : Int) := by simp
    rw [List.append_assoc, e1] at ih
    simp only [List.cons_append, List.nil_append] at ih
    have hw : wrap64 ((pre.length : Int) + 1) = ((pre.length + 1 : Nat) : Int) := by rw [w64 (by simp at hl; omega)]; omega
    rw [ecdysislaw13_few.l0, if_pos (by simp; omega), if_pos (by omega), if_pos (by simp; omega), hrd, hw, ih]
def fewR (os : List S31) : Bool := decide (os.length ≤ 100) && decide (nmSum os ≤ 5000)
theorem few_f (os : List S31) (hl : os.length ≤ 9223372036854775000) (hs : ∀ o ∈ os, o.f1.size ≤ 140737488351232) : ecdysislaw13_few.f (os.length + 1) os = some (fewR os) := by
  rw [ecdysislaw13_few.f, fewR]
  by_cases h : os.length ≤ 100
  · have := few_suf (os.length : Int) (by omega) os [] 0 (os.length + 1) (by simp) (by omega) (by omega) (by simp) hs
    simp only [List.length_nil, List.nil_append] at this
    refine this.trans ?_
    simp [h]
  · have := few_any os [] 0 (os.length + 1) (by omega) (by simpa using hl) (by simp; omega)
    simp only [List.length_nil, List.nil_append] at this
    refine this.trans ?_
    simp [h]
theorem nmSum_mem {os : List S31} {o : S31} (ho : o ∈ os) : (o.f1.size : Int) ≤ nmSum os := by
  induction os with
  | nil => cases ho
  | cons p os ih =>
    have h0 : ∀ l : List S31, 0 ≤ nmSum l := fun l => by
      induction l with
      | nil => exact Int.le_refl _
      | cons q l ih => simp only [nmSum, List.map_cons, List.sum_cons] at ih ⊢; omega
    have e : nmSum (p :: os) = p.f1.size + nmSum os := by simp [nmSum]
    rcases List.mem_cons.1 ho with rfl | ho
    · have := h0 os; omega
    · have := ih ho; omega
theorem fewR_yes {os : List S31} (h : fewR os = true) : os.length ≤ 100 ∧ ∀ o ∈ os, o.f1.size ≤ 5000 := by
  simp only [fewR, Bool.and_eq_true, decide_eq_true_eq] at h
  exact ⟨h.1, fun o ho => by have := nmSum_mem ho; omega⟩
end Go.Proofs.Ytliclajcifeneaa.Hand
namespace Go.Proofs.Ytliclajcifeneaa.Hand
set_option linter.unusedVariables false
set_option linter.unusedSimpArgs false
open Go.RowKit Go.Maps Go.Sort Go.Shelf Go.Proofs.YtliclajcifeneaaW.PrintWords Go.Proofs.Ytliclajcifeneaa.PHandRR
attribute [local go_sem high] eqA29
set_option linter.unusedVariables false
set_option linter.unusedSimpArgs false
theorem rget_at (w : World) (p s : Nat) (L : List Rt) (h : HasR w p s L) (x : ByteArray) (hx : x.size ≤ maxLen) (a b c : Int) (he : getE L x.data.toList = ((a, b), c)) :
    Calls Try.prog 17 #[.pointer (some ⟨p, 0, none⟩), .string x] w fun e w' => e = .returned (.tuple #[.agg #[.int .i64 a, .int .i64 b], .int .i64 c]) ∧ Below w.heap.size w w' := by
  have := rget_calls w p s L h x hx
  rw [he] at this
  exact this
set_option maxRecDepth 100000 in
set_option maxHeartbeats 4000000 in
theorem stands_calls (w : World) (p s : Nat) (L : List Rt) (h : HasR w p s L) (A : Option Addr) (c : Nat) (hC : Kd.C k66 w A L.length (toS L)) (hc : L.length ≤ c) :
    Calls Try.prog 15 #[.pointer (some ⟨p, 0, none⟩), .slice A L.length c] w fun e w' => e = .returned (.bool true) ∧ Below w.heap.size w w' := by
  have hu29 := Try.underlying29
  have hu66 := Try.underlying66
  have HH := Aside0.mk h
  have HC := Aside0.mk hC
  have HCL := Aside0.mk hc
  obtain ⟨n, hn⟩ := handles_f L h.good
  have HRH := Aside0.mk (fun (W : World) (hW : Below w.heap.size w W) => show Calls Try.prog 30 #[.slice A L.length c] W (fun e w' => ∃ v0_ : Value, e = .returned v0_ ∧ Kd.R k29 29 w' W.heap.size (fun _ => True) v0_ (hsS (hsL L)) ∧ Below W.heap.size W w') from by
    have := ecdysisref13_Handles.calls n A c (toS L) (hsS (hsL L)) W (by rw [toS_len]; exact Kd.C_below hC hW) (by rw [toS_len]; exact hc) hn
    rw [toS_len] at this
    exact this)
  have HSF := Aside0.mk (same_f (hsS (hsL L)) (by rw [hsS, List.length_map]; have := hsL_len L; have := h.good.few; omega) 100000 (by rw [hsS, List.length_map]; have := hsL_len L; have := h.good.few; omega))
  have hfew := h.good.few
  clear h hC hc hn
  go_enter Try.func15, Try.ntmps15
  go_wp2_with (first | (go_at_call 19; (with_reducible refine (names_calls w p s L HH.out).mono ?_); rintro e w2 ⟨un, rfl, hr2, hb2⟩; have HN2 := Aside0.mk hr2; have HB2 := Aside0.mk hb2; obtain ⟨A2, c2, rfl, hcap2, hC2⟩ := Kd.R_reads hr2; have hln2 : (namesB L).length = L.length := names_len L; clear hr2 hb2 hcap2 hC2) | (go_at_call 20; (with_reducible refine (handles_calls w2 p s L (HH.out.below HB2.out)).mono ?_); rintro e w3 ⟨u3, rfl, hr3, hb3⟩; have HR3 := Aside0.mk hr3; have HB3 := Aside0.mk (bel_step HB2.out hb3); have HB3a := Aside0.mk hb3; obtain ⟨A3, c3, rfl, hcap3, hC3⟩ := Kd.R_reads hr3; have HC3 := Aside0.mk hC3; have HL3 := Aside0.mk hcap3; clear hr3 hb3 hC3 hcap3) | (go_at_call 30; (with_reducible refine (HRH.out w3 HB3.out).mono ?_); rintro e w4 ⟨u4, rfl, hr4, hb4⟩; have HB4 := Aside0.mk (bel_step HB3.out hb4); have HB4a := Aside0.mk hb4; obtain ⟨A4, c4, rfl, hcap4, hC4⟩ := Kd.R_reads hr4; have HC4 := Aside0.mk hC4; have HC34 := Aside0.mk (Kd.C_below HC3.out hb4); have HL4 := Aside0.mk hcap4; clear hr4 hb4 hC4 hcap4) | (go_at_call 26; (with_reducible refine (ecdysisref13_Same.calls 100000 A3 c3 (hsS (hsL L)) A4 c4 (hsS (hsL L)) true w4 HC34.out HL3.out HC4.out HL4.out HSF.out).mono ?_); rintro e w5 ⟨rfl, ⟨nd, rfl⟩⟩))
  have HN4 : Aside0 (Kd.R Kd.string 9 (w4.drewN nd) w.heap.size (fun _ => True) (.slice A2 L.length c2) (namesB L)) := ⟨by
    have := Kd.R_drewN (Kd.R_below (Kd.R_below HN2.out HB3a.out) HB4a.out) nd
    rw [hln2] at this
    exact this⟩
  have HB5 : Aside0 (Below w.heap.size w (w4.drewN nd)) := ⟨pw_below_drewN HB4.out nd⟩
  clear HN2 HB2 HR3 HB3 HB3a HC3 HL3 HRH HSF HB4 HB4a HC4 HC34 HL4 hln2
  go_loopw [27] (fun vi wr => ∃ t : Nat, vi = .int .i64 t ∧ t ≤ L.length ∧ Aside0 (Kd.R Kd.string 9 wr w.heap.size (fun _ => True) (.slice A2 L.length c2) (namesB L)) ∧ Aside0 (Below w.heap.size w wr)) (fun vi _ => L.length - (nOf vi).toNat)
  case atStart => exact ⟨0, rfl, Nat.zero_le _, HN4, HB5⟩
  case round =>
    obtain ⟨t, rfl, ht, HN, HB⟩ := hrel
    clear HN4 HB5
    by_cases hlt : t < L.length
    · obtain ⟨q, hq⟩ : ∃ q, L[t]? = some q := ⟨_, List.getElem?_eq_getElem hlt⟩
      have hqm := List.mem_of_getElem? hq
      obtain ⟨gn, rfl, hgn, hcell⟩ := str_cell HN.out (names_get hq)
      have hsz := nmB_size q.1
      have hnl := name_len HH.out.good hqm
      have hrd : rd_T66 (toS L) (t : Int) = toS1 q := by simp [rd_T66, toS, List.getD_eq_getElem?_getD, hq]
      have hge : getE L (nmB q.1).data.toList = ((q.2.1, q.2.2), 0) := by simp [getE, mem_getR HH.out.good.sorted hqm]
      have HGET := Aside0.mk (fun W (hW : Below w.heap.size w W) => rget_at W p s L (HH.out.below hW) (nmB q.1) (by rw [hsz]; unfold maxLen; omega) _ _ _ hge)
      obtain ⟨x, a, b⟩ := q
      simp only [toS1] at hrd HGET
      have HRD := Aside0.mk hrd
      have HB' := HB.out
      clear hq hqm hge hsz hnl hrd
      go_wp2_with (go_at_call 17; (with_reducible refine (HGET.out wr HB').mono ?_); rintro e w6 ⟨rfl, hb6⟩; have HB6a := Aside0.mk hb6; have HB6 := Aside0.mk (bel_step HB' hb6); have HC6 := Aside0.mk (fun o => at_T66 (Kd.C_below (Kd.C_below HC.out (bel_step HB' hb6)) (below_alloc (Below.refl w6.heap.size w6) o)) (t : Int) (by omega) (by omega)); clear hb6)
      obtain ⟨ad, hA, f0, f1, f2⟩ := HC6.out (.cells #[.int .i64 a, .int .i64 b] 29)
      rw [HRD.out, Int.toNat_natCast] at f0 f1 f2
      simp only at f0 f1 f2
      subst hA
      go_quiet (fail)
      go_wp2
      go_roundw
      case rel =>
        refine ⟨t + 1, by go_num, by omega, ⟨?_⟩, ⟨pw_below_drewN (below_alloc HB6.out _) nq⟩⟩
        exact Kd.R_drewN (Kd.R_below (Kd.R_below HN.out HB6a.out) (below_alloc (Below.refl _ _) _)) nq
      case measure => simp [nOf]; omega
    · go_wp2
      go_ret
      exact ⟨rfl, HB.out⟩
/-- The two roots of 'alive'. -/
def aliveL : List Rt := [([97], 1, 1), ([98], 2, 1)]
theorem al_set1 : setE [] [98] (2, 1) = ([([98], 2, 1)], 0) := by decide
theorem al_set2 : setE [([98], 2, 1)] [97] (1, 1) = (aliveL, 0) := by decide
theorem al_get : getE aliveL [98] = ((2, 1), 0) := by decide
theorem al_hs : hsS (hsL aliveL) = [⟨1, 1⟩, ⟨2, 1⟩] := by
  have h1 : (aliveL.map fun q => pk q.2) = [65537, 131073] := by decide
  have h2 : sortU [65537, 131073] = [65537, 131073] := List.mergeSort_of_pairwise (by decide)
  rw [hsL, h1, h2]
  rfl
theorem al_enc : (encR aliveL).length = 21 := by decide
theorem two_C {w : World} {g ty : Nat} {a b c d : Int} (h : w.heap[g]? = some (.cells #[.int .i64 a, .int .i64 b, .int .i64 c, .int .i64 d] ty (0, 0))) : Kd.C k29 w (some ⟨g, 0, none⟩) 2 [⟨a, b⟩, ⟨c, d⟩] := by
  refine ⟨rfl, by decide, fun _ => ⟨_, rfl, fun j p hj => ?_⟩⟩
  match j, hj with
  | 0, hj =>
    obtain rfl : (⟨a, b⟩ : S29) = p := Option.some.inj hj
    refine ⟨_, rfl, k29_mk w _, fun i u hu => ?_⟩
    match i, hu with
    | 0, hu => exact (blk_cell h (i := 0) rfl).trans hu
    | 1, hu => exact (blk_cell h (i := 1) rfl).trans hu
  | 1, hj =>
    obtain rfl : (⟨c, d⟩ : S29) = p := Option.some.inj hj
    refine ⟨_, rfl, k29_mk w _, fun i u hu => ?_⟩
    match i, hu with
    | 0, hu => exact (blk_cell h (i := 2) rfl).trans hu
    | 1, hu => exact (blk_cell h (i := 3) rfl).trans hu
set_option maxRecDepth 100000 in
set_option maxHeartbeats 4000000 in
theorem aliveR_calls (w : World) : Calls Try.prog 12 #[] w fun e w' => e = .returned (.bool true) ∧ Below w.heap.size w w' := by
  have hu29 := Try.underlying29
  have hA : (⟨#[97]⟩ : ByteArray).size ≤ maxLen := by decide
  have hB : (⟨#[98]⟩ : ByteArray).size ≤ maxLen := by decide
  have HS1 := Aside0.mk (fun (W : World) (p s : Nat) (h : HasR W p s []) => show Calls Try.prog 16 #[.pointer (some ⟨p, 0, none⟩), .string ⟨#[98]⟩, .agg #[.int .i64 2, .int .i64 1]] W (fun e w' => e = .returned (.int .i64 0) ∧ HasR w' p s [([98], 2, 1)] ∧ Fr (fun b => b = s) W w') from by
    have := rset_calls W p s [] h ⟨#[98]⟩ hB 2 1
    rw [show (⟨#[98]⟩ : ByteArray).data.toList = [98] from rfl, al_set1] at this
    exact this)
  have HS2 := Aside0.mk (fun (W : World) (p s : Nat) (h : HasR W p s [([98], 2, 1)]) => show Calls Try.prog 16 #[.pointer (some ⟨p, 0, none⟩), .string ⟨#[97]⟩, .agg #[.int .i64 1, .int .i64 1]] W (fun e w' => e = .returned (.int .i64 0) ∧ HasR w' p s aliveL ∧ Fr (fun b => b = s) W w') from by
    have := rset_calls W p s _ h ⟨#[97]⟩ hA 1 1
    rw [show (⟨#[97]⟩ : ByteArray).data.toList = [97] from rfl, al_set2] at this
    exact this)
  have HG := Aside0.mk (fun (W : World) (p s : Nat) (h : HasR W p s aliveL) => show Calls Try.prog 17 #[.pointer (some ⟨p, 0, none⟩), .string ⟨#[98]⟩] W (fun e w' => e = .returned (.tuple #[.agg #[.int .i64 2, .int .i64 1], .int .i64 0]) ∧ Below W.heap.size W w') from rget_at W p s aliveL h ⟨#[98]⟩ hB 2 1 0 al_get)
  have HSF := Aside0.mk (same_f [⟨1, 1⟩, ⟨2, 1⟩] (by decide) 100000 (by decide))
  have HSM := Aside0.mk (fun (W : World) (B : Option Addr) (d : Nat) (hC : Kd.C k29 W B 2 [⟨1, 1⟩, ⟨2, 1⟩]) (hd : 2 ≤ d) => show Calls Try.prog 26 #[.slice B 2 d, .slice (some ⟨W.heap.size, 0, none⟩) 2 2] (W.alloc (.cells #[.int .i64 1, .int .i64 1, .int .i64 2, .int .i64 1] 29)) (fun e w' => e = .returned (.bool true) ∧ Drawn0 (W.alloc (.cells #[.int .i64 1, .int .i64 1, .int .i64 2, .int .i64 1] 29)) w') from by
    exact ecdysisref13_Same.calls 100000 B d [⟨1, 1⟩, ⟨2, 1⟩] (some ⟨W.heap.size, 0, none⟩) 2 [⟨1, 1⟩, ⟨2, 1⟩] true (W.alloc (.cells #[.int .i64 1, .int .i64 1, .int .i64 2, .int .i64 1] 29)) (Kd.C_below hC (below_alloc (Below.refl W.heap.size W) _)) hd (two_C (heap_alloc_new W _)) (by decide) HSF.out)
  clear hA hB
  go_enter Try.func12, Try.ntmps12
  go_wp2_with (first | (go_at_call 10; (with_reducible refine (rnew_calls w).mono ?_); rintro e w1 ⟨p, s, rfl, h1, hb1, hp1, hs1⟩; have H1 := Aside0.mk h1; have HB1 := Aside0.mk hb1; clear h1 hb1) | (go_at_call 16; (with_reducible refine (HS1.out w1 p s H1.out).mono ?_); rintro e w2 ⟨rfl, h2, hf2⟩; have H2 := Aside0.mk h2; have HB2 := Aside0.mk (HB1.out.trans (hf2.below w.heap.size HB1.out.size (fun b hb => by omega))); clear h2 hf2) | (go_at_call 16; (with_reducible refine (HS2.out w2 p s H2.out).mono ?_); rintro e w3 ⟨rfl, h3, hf3⟩; have H3 := Aside0.mk h3; have HB3 := Aside0.mk (HB2.out.trans (hf3.below w.heap.size HB2.out.size (fun b hb => by omega))); clear h3 hf3) | (go_at_call 19; (with_reducible refine (names_calls w3 p s aliveL H3.out).mono ?_); rintro e w4 ⟨un, rfl, hr4, hb4⟩; have HN4 := Aside0.mk hr4; have H4 := Aside0.mk (H3.out.below hb4); have HB4 := Aside0.mk (bel_step HB3.out hb4); obtain ⟨A4, c4, hv4, hcap4, _⟩ := Kd.R_reads hr4; rw [show (namesB aliveL).length = 2 from rfl] at hv4; subst hv4; clear hr4 hb4 hcap4) | (go_at_call 17; (with_reducible refine (HG.out w4 p s H4.out).mono ?_); rintro e w5 ⟨rfl, hb5⟩; have H5 := Aside0.mk (H4.out.below hb5); have HB5 := Aside0.mk (bel_step HB4.out hb5); obtain ⟨g4, hA4, hg4, hc4⟩ := str_cell (Kd.R_below HN4.out hb5) (j := 0) (x := nmB [97]) rfl; subst hA4; have hc4a := cell_alloc (o := .cells #[.int .i64 2, .int .i64 1] 29) hc4; have HB6 := Aside0.mk (below_alloc HB5.out (.cells #[.int .i64 2, .int .i64 1] 29)); have H6 := Aside0.mk (H5.out.below (below_alloc (Below.refl w5.heap.size w5) (.cells #[.int .i64 2, .int .i64 1] 29))); clear hb5) | (go_at_call 20; (with_reducible refine (handles_calls _ p s aliveL H6.out).mono ?_); rintro e w7 ⟨u7, rfl, hr7, hb7⟩; have H7 := Aside0.mk (H6.out.below hb7); have HB7 := Aside0.mk (bel_step HB6.out hb7); obtain ⟨A7, c7, hv7, hcap7, hC7⟩ := Kd.R_reads hr7; rw [al_hs] at hv7 hcap7 hC7; subst hv7; have HC7 : Aside0 (Kd.C k29 w7 A7 2 [⟨1, 1⟩, ⟨2, 1⟩]) := ⟨hC7⟩; have HL7 : Aside0 (2 ≤ c7) := ⟨hcap7⟩; clear hr7 hb7 hcap7 hC7) | (go_at_call 26; (with_reducible refine (HSM.out w7 A7 c7 HC7.out HL7.out).mono ?_); rintro e w8 ⟨rfl, ⟨nd, rfl⟩⟩; have H8 := Aside0.mk (H7.out.below (pw_below_drewN (below_alloc (Below.refl w7.heap.size w7) (.cells #[.int .i64 1, .int .i64 1, .int .i64 2, .int .i64 1] 29)) nd)); have HB8 := Aside0.mk (pw_below_drewN (below_alloc HB7.out (.cells #[.int .i64 1, .int .i64 1, .int .i64 2, .int .i64 1] 29)) nd)) | (go_at_call 21; (with_reducible refine (renc_calls _ p s aliveL H8.out).mono ?_); rintro e w9 ⟨u9, rfl, hr9, hb9⟩; have HB9 := Aside0.mk (bel_step HB8.out hb9); obtain ⟨A9, c9, hv9, _, _⟩ := Kd.R_reads hr9; rw [al_enc] at hv9; subst hv9; clear hr9 hb9))
  go_ret
  exact ⟨rfl, HB9.out⟩
end Go.Proofs.Ytliclajcifeneaa.Hand
namespace Go.Proofs.Ytliclajcifeneaa.Hand
set_option linter.unusedVariables false
set_option linter.unusedSimpArgs false
open Go.RowKit Go.Maps Go.Sort Go.Shelf Go.Proofs.YtliclajcifeneaaW.PrintWords Go.Proofs.Ytliclajcifeneaa.PHandRR
set_option linter.unusedVariables false
set_option linter.unusedSimpArgs false
theorem few_row (w : World) (A : Option Addr) (d : Nat) (os : List S31) (h : OpsR w A d os) : Calls Try.prog 11 #[.slice A os.length d] w fun e w' => e = .returned (.bool (fewR os)) ∧ Below w.heap.size w w' :=
  ecdysislaw13_few.calls (os.length + 1) A d os (fewR os) w h.row h.cap (few_f os (by have := h.len; omega) h.each)
/-- A call of a script in memory. -/
theorem op_at {w : World} {A : Option Addr} {d : Nat} {os : List S31} (h : OpsR w A d os) {t : Nat} {k a b : Int} {x : ByteArray} (hq : os[t]? = some ⟨k, x, ⟨a, b⟩⟩) :
    ∃ ad , A = some ad ∧ w.cell? (ad.add (t * 4)) = some (.int .i64 k) ∧ w.cell? ⟨(ad.add (t * 4)).block, (ad.add (t * 4)).off + 1, none⟩ = some (.string x) ∧ w.cell? ⟨(ad.add (t * 4)).block, (ad.add (t * 4)).off + 2, none⟩ = some (.int .i64 a) ∧ w.cell? ⟨(ad.add (t * 4)).block, (ad.add (t * 4)).off + 3, none⟩ = some (.int .i64 b) := by
  have hlt := (List.getElem?_eq_some_iff.1 hq).1
  have := at_T31 h.row (t : Int) (by omega) (by omega)
  rw [show rd_T31 os (t : Int) = ⟨k, x, ⟨a, b⟩⟩ by simp [rd_T31, List.getD_eq_getElem?_getD, hq], Int.toNat_natCast] at this
  exact this
/-- The document's roots in a variable. -/
def RefR (w : World) (base p s : Nat) (u : Value) (L : List Rt) : Prop := Kd.R k66 66 w base (fun k => k ≠ p ∧ k ≠ s ∧ k < w.heap.size) u (toS L)
theorem RefR.nil (w : World) (base p s : Nat) : RefR w base p s (.slice none 0 0) [] := Kd.R_nil _ _ _ _ _
theorem RefR.old {w : World} {base p s : Nat} {u : Value} {L : List Rt} (h : RefR w base p s u L) {w1 : World} (hb : Below w.heap.size w w1) : Kd.R k66 66 w1 base (fun k => k ≠ p ∧ k ≠ s ∧ k < w.heap.size) u (toS L) := Kd.R_below h hb
theorem RefR.of {w w1 : World} {base p s : Nat} {ok : Nat → Prop} {u : Value} {L : List Rt} (h : Kd.R k66 66 w base ok u (toS L)) (hp : ¬ ok p) (hs : ¬ ok s) (hf : Fr (fun b => b = s) w w1) : RefR w1 base p s u L := by
  have h1 : Kd.R k66 66 w1 base ok u (toS L) := Kd.R_step h (fun k hk hlt => hf.block k hlt (fun e => hs (e ▸ hk)))
  refine Kd.R_mono (Kd.R_keptB h1 (Kept.refl w1 (fun k => k = p ∨ k = s)) (fun k hk e => by rcases e with e | e; exact hp (e ▸ hk); exact hs (e ▸ hk))) (fun k hk => ⟨fun e => hk.2.1 (Or.inl e), fun e => hk.2.1 (Or.inr e), hk.2.2⟩)
theorem RefR.below {w : World} {base p s : Nat} {u : Value} {L : List Rt} (h : RefR w base p s u L) {w1 : World} (hb : Below w.heap.size w w1) : RefR w1 base p s u L := Kd.R_mono (h.old hb) (fun k hk => ⟨hk.1, hk.2.1, Nat.lt_of_lt_of_le hk.2.2 hb.size⟩)
theorem RefR.reads {w : World} {base p s : Nat} {A : Option Addr} {n c : Nat} {L : List Rt} (h : RefR w base p s (.slice A n c) L) : Kd.C k66 w A L.length (toS L) ∧ L.length ≤ c := by
  obtain ⟨e, h1, h2⟩ := Kd.R_reads' h
  rw [toS_len] at e h2
  exact ⟨h2, e ▸ h1⟩
theorem do_row {w0 w : World} (hB : Below w0.heap.size w0 w) {P : Nat → Prop} {u : Value} {L : List Rt} (h : Kd.R k66 66 w w0.heap.size P u (toS L)) (hg : GoodR L) (k : Int) (x : ByteArray) (hx : x.size ≤ 50000) (a b : Int) {L' : List Rt} {c d e0 : Int} (hr : doE L k x.data.toList (a, b) = (L', (c, d), e0)) :
    Calls Try.prog 13 #[u, .agg #[.int .i64 k, .string x, .int .i64 a, .int .i64 b]] w fun e w' => ∃ v : Value, e = .returned (.tuple #[v, .agg #[.int .i64 c, .int .i64 d], .int .i64 e0]) ∧ Kd.R k66 66 w' w0.heap.size (fun k => P k ∨ w.heap.size ≤ k) v (toS L') ∧ Below w0.heap.size w0 w' ∧ Kept w w' P := by
  obtain ⟨n, hn⟩ := do_f L hg k x hx a b
  have := hn n (Nat.le_refl _)
  rw [hr] at this
  exact ecdysisref13_Do.calls n P u (toS L) k x a b (toS L') c d e0 w0 w hB h this
theorem does_row (w : World) (p s : Nat) (L : List Rt) (h : HasR w p s L) (k : Int) (x : ByteArray) (hx : x.size ≤ 50000) (a b : Int) {L' : List Rt} {c d e0 : Int} (hr : doE L k x.data.toList (a, b) = (L', (c, d), e0)) :
    Calls Try.prog 14 #[.pointer (some ⟨p, 0, none⟩), .agg #[.int .i64 k, .string x, .int .i64 a, .int .i64 b]] w fun e w' => e = .returned (.tuple #[.agg #[.int .i64 c, .int .i64 d], .int .i64 e0]) ∧ HasR w' p s L' ∧ Fr (fun b => b = s) w w' := by
  have := does_calls w p s L h k x (by unfold maxLen; omega) a b
  rw [hr] at this
  exact this
theorem HasR.kept {w w1 : World} {p s : Nat} {L : List Rt} (h : HasR w p s L) {P : Nat → Prop} (hk : Kept w w1 P) (hp : ¬ P p) (hs : ¬ P s) : HasR w1 p s L := h.same (hk.2 p h.p_lt hp) (hk.2 s h.s_lt hs)
end Go.Proofs.Ytliclajcifeneaa.Hand
namespace Go.Proofs.Ytliclajcifeneaa.Hand
set_option linter.unusedVariables false
set_option linter.unusedSimpArgs false
open Go.RowKit Go.Maps Go.Sort Go.Shelf Go.Proofs.YtliclajcifeneaaW.PrintWords Go.Proofs.Ytliclajcifeneaa.PHandRR
set_option linter.unusedVariables false
set_option linter.unusedSimpArgs false
end Go.Proofs.Ytliclajcifeneaa.Hand
