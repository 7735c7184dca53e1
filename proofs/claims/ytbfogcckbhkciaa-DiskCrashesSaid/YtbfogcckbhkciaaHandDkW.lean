/- A device, word by word: plain. -/
import Derived.Test.YtbfogcckbhkciaaHandDk6
namespace Go.Proofs.Ytbfogcckbhkciaa.Hand
open Go.RowKit Go.Maps Go.Proofs.YtbfogcckbhkciaaW.PrintWords
set_option linter.unusedVariables false
set_option linter.unusedSimpArgs false
/-- A device of n words: what is seen, what was safe, what is flushed. -/
structure Is (d : Dev) (n : Nat) (W : Nat → List Int) (S : Nat → Option (List Int)) (F : Nat → Bool) : Prop where
  len : d.B.length = 8 * n
  w : ∀ k, k < n → word d.B k = W k
  s : ∀ k, d.S k = S k
  f : ∀ k, d.F k = F k
theorem Is.congr {d : Dev} {n : Nat} {W W' : Nat → List Int} {S S' : Nat → Option (List Int)} {F F' : Nat → Bool} (h : Is d n W S F) (hw : ∀ k, k < n → W k = W' k) (hs : ∀ k, S k = S' k) (hf : ∀ k, F k = F' k) : Is d n W' S' F' :=
  ⟨h.len, fun k hk => (h.w k hk).trans (hw k hk), fun k => (h.s k).trans (hs k), fun k => (h.f k).trans (hf k)⟩
theorem hit_word (i k : Nat) : hitB (8 * i) 8 k = decide (k = i) := by
  rw [hitB]
  exact decide_eq_decide.2 (by omega)
theorem hit_words (i m k : Nat) : hitB (8 * i) (8 * m) k = decide (i ≤ k ∧ k < i + m) := by
  rw [hitB]
  exact decide_eq_decide.2 (by omega)
theorem word_splice {B x : List Int} {i k : Nat} (hx : x.length = 8) (hi : 8 * i + 8 ≤ B.length) : word (B.take (8 * i) ++ (x ++ B.drop (8 * i + 8))) k = if k = i then x else word B k := by
  rw [word, cut]
  by_cases h1 : k = i
  · subst h1
    rw [if_pos rfl, List.drop_append_of_le_length (by rw [List.length_take]; omega), List.drop_eq_nil_of_le (by rw [List.length_take]; omega), List.nil_append, List.take_append_of_le_length (by omega), List.take_of_length_le (by omega)]
  · rw [if_neg h1]
    apply List.ext_getElem?
    intro t
    rw [word, cut]
    by_cases ht : t < 8
    · rw [List.getElem?_take_of_lt ht, List.getElem?_take_of_lt ht, List.getElem?_drop, List.getElem?_drop]
      by_cases h2 : k < i
      · rw [List.getElem?_append_left (by rw [List.length_take]; omega), List.getElem?_take_of_lt (by omega)]
      · rw [List.getElem?_append_right (by rw [List.length_take]; omega), List.length_take, Nat.min_eq_left (by omega), List.getElem?_append_right (by omega), List.getElem?_drop]
        congr 1
        omega
    · rw [List.getElem?_take_eq_none (by omega), List.getElem?_take_eq_none (by omega)]
theorem Is.wr {d : Dev} {n : Nat} {W : Nat → List Int} {S : Nat → Option (List Int)} {F : Nat → Bool} (h : Is d n W S F) {i : Nat} {x : List Int} (hi : i < n) (hx : x.length = 8) :
    Is (d.step (.wr (8 * i) x)) n (fun k => if k = i then x else W k) (fun k => if k = i then some ((S k).getD (W k)) else S k) (fun k => F k && !decide (k = i)) := by
  have hl := h.len
  have e : d.step (.wr (8 * i) x) = d.write (8 * i) x := if_pos (by omega)
  rw [e]
  refine ⟨?_, fun k hk => ?_, fun k => ?_, fun k => ?_⟩
  · rw [Dev.write]
    exact (splice_length (by omega)).trans hl
  · simp only [Dev.write, hx]
    rw [word_splice hx (by omega), h.w k hk]
  · simp only [Dev.write, hx, hit_word, decide_eq_true_eq]
    by_cases hk : k = i
    · subst hk
      rw [if_pos rfl, if_pos rfl, h.s, h.w _ hi]
    · rw [if_neg hk, if_neg hk, h.s]
  · simp only [Dev.write, hx, hit_word, h.f]
theorem Is.fl {d : Dev} {n : Nat} {W : Nat → List Int} {S : Nat → Option (List Int)} {F : Nat → Bool} (h : Is d n W S F) {i m : Nat} (hi : i + m ≤ n) :
    Is (d.step (.fl (8 * i) (8 * m))) n W S (fun k => F k || (decide (i ≤ k ∧ k < i + m) && (S k).isSome)) := by
  have hl := h.len
  have e : d.step (.fl (8 * i) (8 * m)) = d.flush (8 * i) (8 * m) := if_pos (by omega)
  rw [e]
  refine ⟨hl, h.w, h.s, fun k => ?_⟩
  simp only [Dev.flush, hit_words, h.s, h.f]
theorem Is.fe {d : Dev} {n : Nat} {W : Nat → List Int} {S : Nat → Option (List Int)} {F : Nat → Bool} (h : Is d n W S F) : Is (d.step .fe) n W (fun k => if F k then none else S k) (fun _ => false) :=
  ⟨h.len, h.w, fun k => by simp only [Dev.step, Dev.fence, h.f, h.s], fun k => rfl⟩
theorem Is.crash {d : Dev} {n : Nat} {W : Nat → List Int} {S : Nat → Option (List Int)} {F : Nat → Bool} (h : Is d n W S F) (hok : d.Ok) (keep : List Int) :
    Is (d.crash keep) n (fun k => match S k with | some c => if (k : Int) ∈ keep then W k else c | none => W k) (fun _ => none) (fun _ => false) := by
  have hl := h.len
  refine ⟨(crash_length hok keep).trans hl, fun k hk => ?_, fun k => rfl, fun k => rfl⟩
  have : word (d.crash keep).B k = d.lossW keep k := word_mapW (fun j hj => hok.lossW keep hj) (by omega)
  rw [this, Dev.lossW, h.s, h.w k hk]
  cases S k <;> rfl
/-- Nothing is loose. -/
def Cln (d : Dev) (n : Nat) (W : Nat → List Int) : Prop := Is d n W (fun _ => none) (fun _ => false)
def newW (i0 : Nat) (X : List Int) (j : Nat) (W : Nat → List Int) (k : Nat) : List Int := if i0 ≤ k ∧ k < i0 + j then cut X (8 * (k - i0)) 8 else W k
def newS (i0 j : Nat) (W : Nat → List Int) (k : Nat) : Option (List Int) := if i0 ≤ k ∧ k < i0 + j then some (W k) else none
theorem Is.wrs {d : Dev} {n i0 j : Nat} {W : Nat → List Int} {X : List Int} (h : Cln d n W) (hi : i0 + j ≤ n) (hX : 8 * j ≤ X.length) :
    Is (d.steps (wrsN (8 * i0) X j)) n (newW i0 X j W) (newS i0 j W) (fun _ => false) := by
  induction j with
  | zero =>
    refine (show Is d n W (fun _ => none) (fun _ => false) from h).congr (fun k _ => ?_) (fun k => ?_) (fun _ => rfl)
    · rw [newW, if_neg (by omega)]
    · rw [newS, if_neg (by omega)]
  | succ j ih =>
    rw [wrsN_succ, Dev.steps_snoc, show 8 * i0 + 8 * j = 8 * (i0 + j) by omega]
    refine ((ih (by omega) (by omega)).wr (i := i0 + j) (by omega) (cut_length (by omega))).congr (fun k _ => ?_) (fun k => ?_) (fun k => ?_)
    · by_cases hk : k = i0 + j
      · rw [if_pos hk, newW, if_pos (by omega)]
        congr 1
        omega
      · rw [if_neg hk, newW, newW]
        by_cases h2 : i0 ≤ k ∧ k < i0 + j
        · rw [if_pos h2, if_pos (by omega)]
        · rw [if_neg h2, if_neg (by omega)]
    · by_cases hk : k = i0 + j
      · rw [if_pos hk, newS, newS, if_neg (by omega), if_pos (by omega), newW, if_neg (by omega)]
        rfl
      · rw [if_neg hk, newS, newS]
        by_cases h2 : i0 ≤ k ∧ k < i0 + j
        · rw [if_pos h2, if_pos (by omega)]
        · rw [if_neg h2, if_neg (by omega)]
    · rfl
/-- The words behind all steps. -/
def allW (i0 : Nat) (X M : List Int) (m : Nat) (W : Nat → List Int) (k : Nat) : List Int := if k = 0 then M else newW i0 X m W k
section
variable {d : Dev} {n i0 m : Nat} {W : Nat → List Int} {X M : List Int}
theorem Is.s1 (h : Cln d n W) (hi : i0 + m ≤ n) (hX : 8 * m = X.length) :
    Is (d.steps (wrsN (8 * i0) X m ++ [.fl (8 * i0) X.length])) n (newW i0 X m W) (newS i0 m W) (fun k => decide (i0 ≤ k ∧ k < i0 + m)) := by
  rw [Dev.steps_snoc, ← hX]
  refine ((Is.wrs h hi (by omega)).fl hi).congr (fun _ _ => rfl) (fun _ => rfl) (fun k => ?_)
  by_cases h2 : i0 ≤ k ∧ k < i0 + m
  · simp [h2, newS]
  · simp [h2]
theorem Is.s2 (h : Cln d n W) (hi : i0 + m ≤ n) (hX : 8 * m = X.length) :
    Cln (d.steps (wrsN (8 * i0) X m ++ [.fl (8 * i0) X.length, .fe])) n (newW i0 X m W) := by
  rw [show wrsN (8 * i0) X m ++ [StepM.fl (8 * i0) X.length, .fe] = (wrsN (8 * i0) X m ++ [.fl (8 * i0) X.length]) ++ [.fe] by simp, Dev.steps_snoc]
  refine (Is.s1 h hi hX).fe.congr (fun _ _ => rfl) (fun k => ?_) (fun _ => rfl)
  by_cases h2 : i0 ≤ k ∧ k < i0 + m
  · simp [h2]
  · simp [h2, newS]
theorem Is.s3 (h : Cln d n W) (h0 : 0 < i0) (hi : i0 + m ≤ n) (hX : 8 * m = X.length) (hM : M.length = 8) (hn : 0 < n) :
    Is (d.steps (wrsN (8 * i0) X m ++ [.fl (8 * i0) X.length, .fe, .wr 0 M])) n (allW i0 X M m W) (fun k => if k = 0 then some (W 0) else none) (fun _ => false) := by
  rw [show wrsN (8 * i0) X m ++ [StepM.fl (8 * i0) X.length, .fe, .wr 0 M] = (wrsN (8 * i0) X m ++ [.fl (8 * i0) X.length, .fe]) ++ [.wr (8 * 0) M] by simp, Dev.steps_snoc]
  refine ((Is.s2 h hi hX).wr hn hM).congr (fun k _ => ?_) (fun k => ?_) (fun k => ?_)
  · rfl
  · by_cases hk : k = 0
    · subst hk
      rw [if_pos rfl, if_pos rfl, newW, if_neg (by omega)]
      rfl
    · rw [if_neg hk, if_neg hk]
  · rfl
theorem Is.s4 (h : Cln d n W) (h0 : 0 < i0) (hi : i0 + m ≤ n) (hX : 8 * m = X.length) (hM : M.length = 8) (hn : 0 < n) :
    Is (d.steps (wrsN (8 * i0) X m ++ [.fl (8 * i0) X.length, .fe, .wr 0 M, .fl 0 8])) n (allW i0 X M m W) (fun k => if k = 0 then some (W 0) else none) (fun k => decide (k = 0)) := by
  rw [show wrsN (8 * i0) X m ++ [StepM.fl (8 * i0) X.length, .fe, .wr 0 M, .fl 0 8] = (wrsN (8 * i0) X m ++ [.fl (8 * i0) X.length, .fe, .wr 0 M]) ++ [.fl (8 * 0) (8 * 1)] by simp, Dev.steps_snoc]
  refine ((Is.s3 h h0 hi hX hM hn).fl (i := 0) (m := 1) (by omega)).congr (fun _ _ => rfl) (fun _ => rfl) (fun k => ?_)
  by_cases hk : k = 0
  · simp [hk]
  · have : ¬ k < 0 + 1 := by omega
    simp [hk]
theorem Is.s5 (h : Cln d n W) (h0 : 0 < i0) (hi : i0 + m ≤ n) (hX : 8 * m = X.length) (hM : M.length = 8) (hn : 0 < n) :
    Cln (d.steps (wrsN (8 * i0) X m ++ [.fl (8 * i0) X.length, .fe, .wr 0 M, .fl 0 8, .fe])) n (allW i0 X M m W) := by
  rw [show wrsN (8 * i0) X m ++ [StepM.fl (8 * i0) X.length, .fe, .wr 0 M, .fl 0 8, .fe] = (wrsN (8 * i0) X m ++ [.fl (8 * i0) X.length, .fe, .wr 0 M, .fl 0 8]) ++ [.fe] by simp, Dev.steps_snoc]
  refine (Is.s4 h h0 hi hX hM hn).fe.congr (fun _ _ => rfl) (fun k => ?_) (fun _ => rfl)
  by_cases hk : k = 0
  · simp [hk]
  · simp [hk]
end
/-- A mark word's mark. -/
def mkW (x : List Int) : Int × Int := ((readM (numL x)).1, (readM (numL x)).2.1)
theorem mkW_mark {g k : Int} (h : MarkOk g k) : mkW (markL g k) = (g, k) := by
  have e : numL (markL g k) = markN g k := (if_pos h).symm
  rw [mkW, e, readM_mark h]
section
variable {d : Dev} {n : Nat} {W : Nat → List Int} {S : Nat → Option (List Int)} {F : Nat → Bool}
theorem Is.mark (h : Is d n W S F) (hn : 0 < n) : dmark d = mkW (W 0) := by
  have hl := h.len
  have e : cut d.B 0 8 = W 0 := by
    have := h.w 0 hn
    rwa [word, Nat.mul_zero] at this
  rw [dmark, if_neg (by omega), e, mkW]
theorem Is.room (h : Is d n W S F) (hn : 0 < n) : roomD d = 8 * ((n - 1) / 2) := by
  have hl := h.len
  rw [roomD, roomN]
  omega
theorem Is.cut (h : Is d n W S F) {a m : Nat} (ha : a + m ≤ n) : Hand.cut d.B (8 * a) (8 * m) = mapW W a m := by
  have hl := h.len
  rw [← mapW_word (by omega)]
  exact mapW_congr (fun j _ hj => h.w j (by omega))
theorem Is.load (h : Is d n W S F) (hn : 0 < n) (h0 : (mkW (W 0)).1 ≠ 0) : loadL d = mapW W (1 + (mkW (W 0)).2.toNat * ((n - 1) / 2)) ((n - 1) / 2) := by
  have hl := h.len
  have hk : (mkW (W 0)).2.toNat ≤ 1 := by
    have hc := dmark_cases d
    rw [h.mark hn] at hc
    rcases hc with hc | hc
    · rw [hc]; exact Nat.zero_le _
    · have := hc.2.2
      omega
  rw [loadL, h.mark hn, if_neg h0, h.room hn, show 8 + (mkW (W 0)).2.toNat * (8 * ((n - 1) / 2)) = 8 * (1 + (mkW (W 0)).2.toNat * ((n - 1) / 2)) by rw [Nat.mul_add, Nat.mul_left_comm]]
  refine h.cut ?_
  rcases (show (mkW (W 0)).2.toNat = 0 ∨ (mkW (W 0)).2.toNat = 1 by omega) with e | e <;> rw [e] <;> omega
end
/-- Where a clean device's next area begins. -/
def i0W (n : Nat) (W : Nat → List Int) : Nat := 1 + (if (mkW (W 0)).1 = 0 then 0 else 1 - (mkW (W 0)).2).toNat * ((n - 1) / 2)
section
variable {d : Dev} {n : Nat} {W : Nat → List Int} {l : List Int}
theorem newK_is {S : Nat → Option (List Int)} {F : Nat → Bool} (h : Is d n W S F) (hn : 0 < n) : newK d = if (mkW (W 0)).1 = 0 then 0 else 1 - (mkW (W 0)).2 := by rw [newK, h.mark hn]
theorem newAt_is {S : Nat → Option (List Int)} {F : Nat → Bool} (h : Is d n W S F) (hn : 0 < n) : newAt d = 8 * i0W n W := by
  rw [newAt, newK_is h hn, h.room hn, i0W, Nat.mul_add, Nat.mul_left_comm]
theorem newK_01 (d : Dev) : newK d = 0 ∨ newK d = 1 := by
  rw [newK]
  rcases dmark_cases d with hc | hc
  · rw [hc]; exact .inl rfl
  · obtain ⟨h1, h2, h3, h4⟩ := hc
    rw [if_neg (by omega)]
    omega
theorem i0_in {S : Nat → Option (List Int)} {F : Nat → Bool} (h : Is d n W S F) (hn : 0 < n) {m : Nat} (hm : m ≤ (n - 1) / 2) : 0 < i0W n W ∧ i0W n W + m ≤ n := by
  have hk := newK_01 d
  rw [newK_is h hn] at hk
  rw [i0W]
  rcases hk with e | e <;> rw [e] <;> simp <;> omega
theorem pad_m (l : List Int) : 8 * ((padL l).length / 8) = (padL l).length := by rw [padL_length]; omega
theorem pad_in (h : ∃ S F, Is d n W S F) (hn : 0 < n) (hf : ¬ FullD d l) : (padL l).length / 8 ≤ (n - 1) / 2 := by
  obtain ⟨S, F, h⟩ := h
  rw [FullD, h.room hn] at hf
  rw [padL_length]
  omega
/-- The words behind Save. -/
def savedW (n : Nat) (l : List Int) (W : Nat → List Int) : Nat → List Int :=
  allW (i0W n W) (padL l) (markL ((mkW (W 0)).1 + 1) (if (mkW (W 0)).1 = 0 then 0 else 1 - (mkW (W 0)).2)) ((padL l).length / 8) W
theorem stepsD_is {S : Nat → Option (List Int)} {F : Nat → Bool} (h : Is d n W S F) (hn : 0 < n) : stepsD d l = wrsN (8 * i0W n W) (padL l) ((padL l).length / 8) ++ [.fl (8 * i0W n W) (padL l).length, .fe, .wr 0 (markL ((mkW (W 0)).1 + 1) (if (mkW (W 0)).1 = 0 then 0 else 1 - (mkW (W 0)).2)), .fl 0 8, .fe] := by
  rw [stepsD, newAt_is h hn, newK_is h hn, h.mark hn]
theorem save_cln (h : Cln d n W) (hn : 0 < n) (hf : ¬ FullD d l) : Cln (d.save l) n (savedW n l W) := by
  have hm := pad_in ⟨_, _, h⟩ hn hf
  obtain ⟨h1, h2⟩ := i0_in h hn hm
  rw [Dev.save, stepsD_is h hn]
  exact Is.s5 h h1 h2 (pad_m l) (markL_length _ _) hn
/-- The mark behind Save. -/
theorem saved_mark (h : Cln d n W) (hn : 0 < n) (hf : ¬ FullD d l) : mkW (savedW n l W 0) = ((mkW (W 0)).1 + 1, if (mkW (W 0)).1 = 0 then 0 else 1 - (mkW (W 0)).2) := by
  have hk := newK_ok hf
  rw [newK_is h hn, h.mark hn] at hk
  rw [savedW, allW, if_pos rfl, mkW_mark hk]
theorem mapW_cut (X : List Int) : ∀ (a i m : Nat), i ≤ a → mapW (fun k => cut X (8 * (k - i)) 8) a m = cut X (8 * (a - i)) (8 * m)
  | a, i, 0, _ => by simp [mapW, cut]
  | a, i, m + 1, h => by
    rw [mapW, mapW_cut X (a + 1) i m (by omega), cut, cut, cut, show 8 * (m + 1) = 8 + 8 * m by omega, List.take_add, List.drop_drop, show 8 * (a + 1 - i) = 8 * (a - i) + 8 by omega]
/-- What is told behind Save. -/
theorem saved_load (h : Cln d n W) (hn : 0 < n) (hf : ¬ FullD d l) : ∃ rest, loadL (d.save l) = l ++ rest ∧ (l ++ rest).length = 8 * ((n - 1) / 2) := by
  have hc := save_cln h hn hf
  have hm := saved_mark h hn hf
  have hp := pad_in ⟨_, _, h⟩ hn hf
  have hg : (mkW (W 0)).1 + 1 ≠ 0 := by
    have hk := newK_ok hf
    rw [h.mark hn] at hk
    have := hk.1
    omega
  have hin := i0_in h hn (Nat.le_refl ((n - 1) / 2))
  have e := Is.load hc hn (by rw [hm]; exact hg)
  rw [hm] at e
  simp only at e
  rw [show 1 + (if (mkW (W 0)).1 = 0 then 0 else 1 - (mkW (W 0)).2).toNat * ((n - 1) / 2) = i0W n W from rfl] at e
  obtain ⟨q, hq⟩ : ∃ q, (n - 1) / 2 = (padL l).length / 8 + q := ⟨(n - 1) / 2 - (padL l).length / 8, by omega⟩
  have hlen := hc.cut (a := i0W n W) (m := (n - 1) / 2) hin.2
  have e1 : mapW (savedW n l W) (i0W n W) ((padL l).length / 8) = padL l := by
    rw [mapW_congr (g' := fun k => cut (padL l) (8 * (k - i0W n W)) 8) (fun j h1 h2 => by rw [savedW, allW, if_neg (by omega), newW, if_pos ⟨h1, h2⟩]), mapW_cut _ _ _ _ (Nat.le_refl _), Nat.sub_self, pad_m, cut]
    simp
  refine ⟨List.replicate ((8 - l.length % 8) % 8) 0 ++ mapW (savedW n l W) (i0W n W + (padL l).length / 8) q, ?_, ?_⟩
  · rw [e, hq, mapW_add, e1, padL, List.append_assoc]
  · have : (loadL (d.save l)).length = 8 * ((n - 1) / 2) := by
      have hl := hc.len
      rw [e, ← hlen, cut_length (by omega)]
    rw [← this, e, hq, mapW_add, e1, padL, List.append_assoc]
end
end Go.Proofs.Ytbfogcckbhkciaa.Hand
