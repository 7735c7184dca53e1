/- A device of the program: what it holds; its small functions. -/
import Derived.Test.YtbfogcckbhkciaaHandMap
import Derived.Test.YtbfogcckbhkciaaHandTake
import Derived.Test.YtbfogcckbhkciaaHandPuts2
namespace Go.Proofs.Ytbfogcckbhkciaa.Hand
open Go.RowKit Go.Maps Go.Proofs.YtbfogcckbhkciaaW.PrintWords

/-- A device, plain: its bytes; what its loose words were when they were last safe; which of them are flushed. -/
structure Dev where
  B : List Int
  S : Nat → Option (List Int)
  F : Nat → Bool
def word (B : List Int) (k : Nat) : List Int := cut B (8 * k) 8
structure Dev.Ok (d : Dev) : Prop where
  len : d.B.length % 8 = 0
  max : d.B.length ≤ 65536
  bys : Bys d.B
  dom : ∀ k, (d.S k).isSome = true → 8 * k + 8 ≤ d.B.length
  safe : ∀ k c, d.S k = some c → c.length = 8 ∧ Bys c
  sub : ∀ k, d.F k = true → (d.S k).isSome = true
def cellV (c : List Int) : Value := .agg (c.map (Value.int .u8)).toArray
def safeF (S : Nat → Option (List Int)) : Lit → Option Value
  | .int .i64 a => if 0 ≤ a then (S a.toNat).map cellV else none
  | _ => none
def flF (F : Nat → Bool) : Lit → Option Value
  | .int .i64 a => if 0 ≤ a ∧ F a.toNat = true then some (.int .i64 1) else none
  | _ => none
theorem safeF_nat (S : Nat → Option (List Int)) (k : Nat) : safeF S (.int .i64 k) = (S k).map cellV := by
  simp [safeF]
theorem flF_nat (F : Nat → Bool) (k : Nat) : flF F (.int .i64 k) = if F k = true then some (.int .i64 1) else none := by
  simp [flF]
/-- A block that a device's calls write. -/
def OwnD (v : Value) (s f : Nat) (b : Nat) : Prop := some b = v.ownBlock ∨ b = s ∨ b = f
structure HasD (w : World) (p : Nat) (v : Value) (s f : Nat) (d : Dev) : Prop where
  ptr : w.heap[p]? = some (.cells #[v, .map (some s), .map (some f)] 113 (0, 0))
  row : Kd.R (Kd.int .u8) 5 w 0 (fun k => k ≠ p) v d.B
  safe : MapF Try.prog 3 w s (safeF d.S)
  fl : MapF Try.prog 3 w f (flF d.F)
  ne : s ≠ f
  ok : d.Ok
theorem own_blk {α : Type} {k : Kd α} {e : Nat} {w : World} {base : Nat} {ok : Nat → Prop} {v : Value} {xs : List α} (h : k.R e w base ok v xs) {b : Nat} (hb : some b = v.ownBlock) : ∃ cs t fr, w.heap[b]? = some (.cells cs t fr) := by
  obtain ⟨_, inner, ho, _⟩ := h
  obtain ⟨cs, hc⟩ := own_typed ho b hb.symm
  exact ⟨_, _, _, hc⟩
section
variable {w w1 : World} {p : Nat} {v : Value} {s f : Nat} {d : Dev}
theorem HasD.own_lt (h : HasD w p v s f d) {b : Nat} (hb : OwnD v s f b) : b < w.heap.size := by
  rcases hb with hb | rfl | rfl
  · obtain ⟨cs, t, fr, hc⟩ := own_blk h.row hb
    exact blk_lt hc
  · exact h.safe.lt
  · exact h.fl.lt
theorem HasD.p_lt (h : HasD w p v s f d) : p < w.heap.size := blk_lt h.ptr
theorem HasD.p_own (h : HasD w p v s f d) : ¬ OwnD v s f p := by
  rintro (hb | hb | hb)
  · exact h.row.1 p hb.symm rfl
  · exact h.safe.ne_cells h.ptr hb
  · exact h.fl.ne_cells h.ptr hb
theorem HasD.v_ne (h : HasD w p v s f d) {b : Nat} (hb : some b = v.ownBlock) : b ≠ s ∧ b ≠ f := by
  obtain ⟨cs, t, fr, hc⟩ := own_blk h.row hb
  exact ⟨h.safe.ne_cells hc, h.fl.ne_cells hc⟩
theorem R_at {e : Nat} {ok : Nat → Prop} {xs : List Int} (h : Kd.R (Kd.int .u8) e w 0 ok v xs) (hb : ∀ b, some b = v.ownBlock → w1.heap[b]? = w.heap[b]?) : Kd.R (Kd.int .u8) e w1 0 ok v xs := by
  exact Kd.R_of_own (own_move (Kd.own_of_R h) (fun k hk => hb k hk.symm)) h.1
theorem HasD.same (h : HasD w p v s f d) (hp : w1.heap[p]? = w.heap[p]?) (hb : ∀ b, OwnD v s f b → w1.heap[b]? = w.heap[b]?) : HasD w1 p v s f d :=
  ⟨hp.trans h.ptr, R_at h.row (fun b h => hb b (.inl h)), h.safe.same (hb s (.inr (.inl rfl))), h.fl.same (hb f (.inr (.inr rfl))), h.ne, h.ok⟩
theorem HasD.fr {T : Nat → Prop} (h : HasD w p v s f d) (hf : Fr T w w1) (hp : ¬ T p) (hb : ∀ b, OwnD v s f b → ¬ T b) : HasD w1 p v s f d :=
  h.same (hf.block p h.p_lt hp) (fun b hb' => hf.block b (h.own_lt hb') (hb b hb'))
theorem HasD.move (h : HasD w p v s f d) (hb : Below w.heap.size w w1) : HasD w1 p v s f d :=
  h.same (hb.block p h.p_lt) (fun b hb' => hb.block b (h.own_lt hb'))
theorem HasD.reads (h : HasD w p v s f d) : ∃ A c, v = .slice A d.B.length c ∧ d.B.length ≤ c ∧ ReadsInt w .u8 A d.B.length d.B := reads_own2 h.row
theorem room_int {g : Lit → Option Value} (n : Nat) (h : ∀ kl, (g kl).isSome = true → ∃ k : Nat, k < n ∧ kl = .int .i64 k) : RoomF g n := by
  refine ⟨(List.range n).map (fun (k : Nat) => Lit.int .i64 k), by simp, fun kl hk => ?_⟩
  obtain ⟨k, hk1, rfl⟩ := h kl hk
  exact List.mem_map.2 ⟨k, List.mem_range.2 hk1, rfl⟩
theorem safeF_some {S : Nat → Option (List Int)} {kl : Lit} (h : (safeF S kl).isSome = true) : ∃ k : Nat, kl = .int .i64 k ∧ (S k).isSome = true := by
  unfold safeF at h
  split at h
  · rename_i a
    split at h
    · rename_i ha
      refine ⟨a.toNat, by rw [Int.toNat_of_nonneg ha], by simpa using h⟩
    · cases h
  · cases h
theorem flF_some {F : Nat → Bool} {kl : Lit} (h : (flF F kl).isSome = true) : ∃ k : Nat, kl = .int .i64 k ∧ F k = true := by
  unfold flF at h
  split at h
  · rename_i a
    split at h
    · rename_i ha
      exact ⟨a.toNat, by rw [Int.toNat_of_nonneg ha.1], ha.2⟩
    · cases h
  · cases h
theorem Dev.Ok.roomS {d : Dev} (h : d.Ok) : RoomF (safeF d.S) 8192 := room_int 8192 (fun kl hk => by
  obtain ⟨k, rfl, hs⟩ := safeF_some hk
  exact ⟨k, by have := h.dom k hs; have := h.max; omega, rfl⟩)
theorem Dev.Ok.roomF {d : Dev} (h : d.Ok) : RoomF (flF d.F) 8192 := room_int 8192 (fun kl hk => by
  obtain ⟨k, rfl, hs⟩ := flF_some hk
  exact ⟨k, by have := h.dom k (h.sub k hs); have := h.max; omega, rfl⟩)
end
theorem len_calls (w : World) (p : Nat) (v : Value) (s f : Nat) (d : Dev) (h : HasD w p v s f d) :
    Calls Try.prog 28 #[.pointer (some ⟨p, 0, none⟩)] w fun e w' => e = .returned (.int .i64 d.B.length) ∧ w = w' := by
  obtain ⟨A, c, rfl, _, _⟩ := h.reads
  have c0 := blk_cell h.ptr (i := 0) rfl
  clear h
  go_enter Try.func28, Try.ntmps28
  go_wp2
  go_ret
  exact ⟨rfl, rfl⟩
theorem bytes_calls (w : World) (p : Nat) (v : Value) (s f : Nat) (d : Dev) (h : HasD w p v s f d) :
    Calls Try.prog 22 #[.pointer (some ⟨p, 0, none⟩)] w fun e w' => ∃ u : Value, e = .returned u ∧ Kd.R (Kd.int .u8) 5 w' w.heap.size (fun _ => True) u d.B ∧ Below w.heap.size w w' := by
  obtain ⟨A, c, rfl, _, hr⟩ := h.reads
  have c0 := blk_cell h.ptr (i := 0) rfl
  have HR := Aside0.mk hr
  have hm := h.ok.max
  clear h hr
  go_enter Try.func22, Try.ntmps22
  go_wp2_with (go_at_call 61; (with_reducible refine (clone_bytes A c d.B w HR.out (by omega)).mono ?_); rintro e w' ⟨u, rfl, hu, hb⟩)
  go_ret
  exact ⟨u, rfl, hu, hb⟩
/-- What is amiss with bytes. -/
def insE (n : Nat) (at_ long : Int) : Int := if long < 0 then 1 else if at_ < 0 ∨ long > n ∨ at_ > n - long then 30 else 0
theorem ins_calls (w : World) (p : Nat) (v : Value) (s f : Nat) (d : Dev) (at_ long : Int) (h : HasD w p v s f d) :
    Calls Try.prog 62 #[.pointer (some ⟨p, 0, none⟩), .int .i64 at_, .int .i64 long] w fun e w' => e = .returned (.int .i64 (insE d.B.length at_ long)) ∧ w = w' := by
  obtain ⟨A, c, rfl, _, hr⟩ := h.reads
  have c0 := blk_cell h.ptr (i := 0) rfl
  have hm := h.ok.max
  clear h hr
  by_cases h1 : long < 0
  · have HE := Aside0.mk (show insE d.B.length at_ long = 1 by rw [insE, if_pos h1])
    go_enter Try.func62, Try.ntmps62
    go_wp2
    go_ret
    exact ⟨by rw [HE.out]; rfl, rfl⟩
  · by_cases h2 : at_ < 0
    · have HE := Aside0.mk (show insE d.B.length at_ long = 30 by rw [insE, if_neg h1, if_pos (.inl h2)])
      go_enter Try.func62, Try.ntmps62
      go_wp2
      go_ret
      exact ⟨by rw [HE.out]; rfl, rfl⟩
    · by_cases h3 : long > d.B.length
      · have HE := Aside0.mk (show insE d.B.length at_ long = 30 by rw [insE, if_neg h1, if_pos (.inr (.inl h3))])
        go_enter Try.func62, Try.ntmps62
        go_wp2
        go_ret
        exact ⟨by rw [HE.out]; rfl, rfl⟩
      · by_cases h4 : at_ > d.B.length - long
        · have HE := Aside0.mk (show insE d.B.length at_ long = 30 by rw [insE, if_neg h1, if_pos (.inr (.inr h4))])
          go_enter Try.func62, Try.ntmps62
          go_wp2
          go_ret
          exact ⟨by rw [HE.out]; rfl, rfl⟩
        · have HE := Aside0.mk (show insE d.B.length at_ long = 0 by rw [insE, if_neg h1, if_neg (by omega)])
          go_enter Try.func62, Try.ntmps62
          go_wp2
          go_ret
          exact ⟨by rw [HE.out]; rfl, rfl⟩
theorem arr_run (a : Addr) (n c : Nat) (h : 8 ≤ n) (W : World) : (Instr.arrayAt 116 (.slice (some a) n c)).run Try.prog W = .ok (.pointer (some a)) W := by
  simp [Instr.arrayAt, run_underlying Try.underlying116, Nat.not_lt.2 h]
theorem row_at8 {w : World} {A : Option Addr} {B : List Int} (hr : ReadsInt w .u8 A B.length B) {k : Nat} (hk : 8 * k + 8 ≤ B.length) :
    ∃ bb ob, A = some ⟨bb, ob, none⟩ ∧ ∀ j, j < 8 → w.cell? ⟨bb, ob + k * 8 + j, none⟩ = some (.int .u8 (rd B (8 * k + j : Nat))) := by
  obtain ⟨ad, rfl, hx⟩ := hr.2.2 (by omega)
  have h0 := hx 0 (by omega)
  obtain ⟨bb, ob, sp⟩ := ad
  obtain rfl : sp = none := by
    have := spot_none h0
    cases sp with
    | none => rfl
    | some x => simp [Addr.add] at this
  refine ⟨bb, ob, rfl, fun j hj => ?_⟩
  have := hx (8 * k + j) (by omega)
  rw [add_plain] at this
  rw [show ob + k * 8 + j = ob + (8 * k + j) by omega, this]
  rfl
theorem word_list {B : List Int} {k : Nat} (hk : 8 * k + 8 ≤ B.length) : word B k = [rd B (8 * k + 0 : Nat), rd B (8 * k + 1 : Nat), rd B (8 * k + 2 : Nat), rd B (8 * k + 3 : Nat), rd B (8 * k + 4 : Nat), rd B (8 * k + 5 : Nat), rd B (8 * k + 6 : Nat), rd B (8 * k + 7 : Nat)] := by
  apply List.ext_getElem?
  intro i
  rw [word, cut]
  by_cases hi : i < 8
  · rw [List.getElem?_take_of_lt hi, List.getElem?_drop, List.getElem?_eq_getElem (by omega)]
    have hr : ∀ j : Nat, j < B.length → rd B (j : Nat) = B.getD j 0 := fun j _ => by simp [rd]
    rcases (show i = 0 ∨ i = 1 ∨ i = 2 ∨ i = 3 ∨ i = 4 ∨ i = 5 ∨ i = 6 ∨ i = 7 by omega) with rfl | rfl | rfl | rfl | rfl | rfl | rfl | rfl <;> simp only [List.getElem?_cons_zero, List.getElem?_cons_succ] <;> rw [hr _ (by omega), List.getD_eq_getElem?_getD, List.getElem?_eq_getElem (by omega)] <;> rfl
  · rw [List.getElem?_eq_none (by rw [List.length_take]; omega), List.getElem?_eq_none (by simp; omega)]
set_option maxRecDepth 100000 in
/-- A word of a row, loaded as an array. -/
theorem at_calls (w : World) (p : Nat) (v : Value) (s f : Nat) (d : Dev) (k : Nat) (h : HasD w p v s f d) (hk : 8 * k + 8 ≤ d.B.length) :
    Calls Try.prog 65 #[.pointer (some ⟨p, 0, none⟩), .int .i64 k] w fun e w' => e = .returned (cellV (word d.B k)) ∧ Below w.heap.size w w' := by
  obtain ⟨A, c, rfl, hc, hr⟩ := h.reads
  have c0 := blk_cell h.ptr (i := 0) rfl
  have c1 := cell_alloc c0
  have hm := h.ok.max
  obtain ⟨bb, ob, rfl, hx⟩ := row_at8 hr hk
  have harr := fun W => arr_run ⟨bb, ob + k * 8, none⟩ (d.B.length - k * 8) (c - k * 8) (by omega) W
  have HW := Aside0.mk (word_list hk)
  have x0 : ∀ o, (w.alloc o).cell? ⟨bb, ob + k * 8, none⟩ = some (.int .u8 (rd d.B (8 * k + 0 : Nat))) := cell_alloc (hx 0 (by omega))
  have x1 := cell_alloc (hx 1 (by omega))
  have x2 := cell_alloc (hx 2 (by omega))
  have x3 := cell_alloc (hx 3 (by omega))
  have x4 := cell_alloc (hx 4 (by omega))
  have x5 := cell_alloc (hx 5 (by omega))
  have x6 := cell_alloc (hx 6 (by omega))
  have x7 := cell_alloc (hx 7 (by omega))
  generalize rd d.B (8 * k + 0 : Nat) = y0 at HW x0
  generalize rd d.B (8 * k + 1 : Nat) = y1 at HW x1
  generalize rd d.B (8 * k + 2 : Nat) = y2 at HW x2
  generalize rd d.B (8 * k + 3 : Nat) = y3 at HW x3
  generalize rd d.B (8 * k + 4 : Nat) = y4 at HW x4
  generalize rd d.B (8 * k + 5 : Nat) = y5 at HW x5
  generalize rd d.B (8 * k + 6 : Nat) = y6 at HW x6
  generalize rd d.B (8 * k + 7 : Nat) = y7 at HW x7
  clear h c0 hx hr
  go_enter Try.func65, Try.ntmps65
  go_wp2
  refine bodyPost_ret (results_cell_row rfl _ _ w.heap.size _ _ _ _ rfl (heap_alloc_new _ _) Try.underlying116 rfl (by kernel_rfl)) rfl ?_
  rw [HW.out]
  exact ⟨rfl, below_alloc (Below.refl _ _) _⟩
/-- What each leaves. -/
def EachRes (a long : Nat) (Inv : Nat → World → Prop) (e : Ending) (w' : World) : Prop :=
  e = .returned (.tuple #[]) ∧ ∃ k, a / 8 ≤ k ∧ (0 < long → a + long ≤ 8 * k) ∧ (∀ j, a / 8 ≤ j → j < k → 8 * j < a + long ∧ 0 < long) ∧ Inv k w'
set_option maxRecDepth 100000 in
/-- each: the words of which some byte is among the bytes, one by one. -/
theorem each_write (q : Nat) (a long : Nat) (Inv : Nat → World → Prop) (w : World) (ha : a + long ≤ 65536) (h0 : Inv (a / 8) w)
    (hstep : ∀ k W, a / 8 ≤ k → 8 * k < a + long → 0 < long → Inv k W → Calls Try.prog 64 #[.int .i64 k, .pointer (some ⟨q, 0, none⟩)] W fun e W' => e = .returned (.tuple #[]) ∧ Inv (k + 1) W') :
    Calls Try.prog 63 #[.int .i64 a, .int .i64 long, .func (.func 64) #[] #[.pointer (some ⟨q, 0, none⟩)]] w (EachRes a long Inv) := by
  have HS := Aside0.mk hstep
  have H0 := Aside0.mk h0
  clear hstep h0
  go_enter Try.func63, Try.ntmps63
  go_wp2
  go_loopw [6] (fun i wr => ∃ k : Nat, i = .int .i64 k ∧ a / 8 ≤ k ∧ 8 * k < a + long + 8 ∧ Aside0 (∀ j, a / 8 ≤ j → j < k → 8 * j < a + long ∧ 0 < long) ∧ Aside0 (Inv k wr)) (fun i _ => (a + long + 8 - 8 * intOf i).toNat)
  case atStart => exact ⟨a / 8, by go_num, Nat.le_refl _, by omega, ⟨fun j h1 h2 => by omega⟩, H0⟩
  case round =>
    obtain ⟨k, rfl, hk1, hk2, HJ, HI⟩ := hrel
    by_cases hl : 0 < long
    · by_cases hlt : 8 * k < a + long
      · go_wp2_with (go_at_call 64; (with_reducible refine (HS.out k wr hk1 hlt hl HI.out).mono ?_); rintro e w' ⟨rfl, hi⟩; have HI1 := Aside0.mk hi; clear hi)
        refine ⟨⟨k + 1, by go_num, by omega, by omega, ⟨fun j h1 h2 => ?_⟩, HI1⟩, by simp [intOf]; omega⟩
        by_cases hj : j = k
        · subst hj; exact ⟨hlt, hl⟩
        · exact HJ.out j h1 (by omega)
      · have hlt2 : ¬ (k : Int) * 8 < a + long := by omega
        go_wp2
        go_end0
        exact ⟨rfl, k, hk1, fun _ => by omega, HJ.out, HI.out⟩
    · obtain rfl : long = 0 := by omega
      go_wp2
      go_end0
      exact ⟨rfl, k, hk1, fun h => absurd h (by omega), HJ.out, HI.out⟩
set_option maxRecDepth 100000 in
/-- each: the words of which some byte is among the bytes, one by one. -/
theorem each_flush (q : Nat) (a long : Nat) (Inv : Nat → World → Prop) (w : World) (ha : a + long ≤ 65536) (h0 : Inv (a / 8) w)
    (hstep : ∀ k W, a / 8 ≤ k → 8 * k < a + long → 0 < long → Inv k W → Calls Try.prog 66 #[.int .i64 k, .pointer (some ⟨q, 0, none⟩)] W fun e W' => e = .returned (.tuple #[]) ∧ Inv (k + 1) W') :
    Calls Try.prog 63 #[.int .i64 a, .int .i64 long, .func (.func 66) #[] #[.pointer (some ⟨q, 0, none⟩)]] w (EachRes a long Inv) := by
  have HS := Aside0.mk hstep
  have H0 := Aside0.mk h0
  clear hstep h0
  go_enter Try.func63, Try.ntmps63
  go_wp2
  go_loopw [6] (fun i wr => ∃ k : Nat, i = .int .i64 k ∧ a / 8 ≤ k ∧ 8 * k < a + long + 8 ∧ Aside0 (∀ j, a / 8 ≤ j → j < k → 8 * j < a + long ∧ 0 < long) ∧ Aside0 (Inv k wr)) (fun i _ => (a + long + 8 - 8 * intOf i).toNat)
  case atStart => exact ⟨a / 8, by go_num, Nat.le_refl _, by omega, ⟨fun j h1 h2 => by omega⟩, H0⟩
  case round =>
    obtain ⟨k, rfl, hk1, hk2, HJ, HI⟩ := hrel
    by_cases hl : 0 < long
    · by_cases hlt : 8 * k < a + long
      · go_wp2_with (go_at_call 66; (with_reducible refine (HS.out k wr hk1 hlt hl HI.out).mono ?_); rintro e w' ⟨rfl, hi⟩; have HI1 := Aside0.mk hi; clear hi)
        refine ⟨⟨k + 1, by go_num, by omega, by omega, ⟨fun j h1 h2 => ?_⟩, HI1⟩, by simp [intOf]; omega⟩
        by_cases hj : j = k
        · subst hj; exact ⟨hlt, hl⟩
        · exact HJ.out j h1 (by omega)
      · have hlt2 : ¬ (k : Int) * 8 < a + long := by omega
        go_wp2
        go_end0
        exact ⟨rfl, k, hk1, fun _ => by omega, HJ.out, HI.out⟩
    · obtain rfl : long = 0 := by omega
      go_wp2
      go_end0
      exact ⟨rfl, k, hk1, fun h => absurd h (by omega), HJ.out, HI.out⟩
end Go.Proofs.Ytbfogcckbhkciaa.Hand
