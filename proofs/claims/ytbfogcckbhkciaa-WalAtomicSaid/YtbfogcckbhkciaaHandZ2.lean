/- Devices: contracts of reading, writing, flushing, fencing, crashing. -/
import Derived.Test.YtbfogcckbhkciaaHandZ1
import Derived.Deep.RegionHeld
import Derived.Deep.RegionHeld3
import Derived.StillTailTactics
namespace Go.Proofs.Ytbfogcckbhkciaa.Hand
open Go.RowKit Go.Maps Go.Proofs.YtbfogcckbhkciaaW.PrintWords

/-- A device, plain: its bytes; what its loose words were when they were last safe; which of them are flushed. -/
structure Dev where
  B : List Int
  S : Nat → Option (List Int)
  F : Nat → Bool
def word (B : List Int) (k : Nat) : List Int := cut B (8 * k) 8
structure Dev.Ok (d : Dev) : Prop where
  len : d.B.length % 8 = 0
  max : d.B.length ≤ 65536
  bys : Bys d.B
  dom : ∀ k, (d.S k).isSome = true → 8 * k + 8 ≤ d.B.length
  safe : ∀ k c, d.S k = some c → c.length = 8 ∧ Bys c
  sub : ∀ k, d.F k = true → (d.S k).isSome = true
def cellV (c : List Int) : Value := .agg (c.map (Value.int .u8)).toArray
def safeF (S : Nat → Option (List Int)) : Lit → Option Value
  | .int .i64 a => if 0 ≤ a then (S a.toNat).map cellV else none
  | _ => none
def flF (F : Nat → Bool) : Lit → Option Value
  | .int .i64 a => if 0 ≤ a ∧ F a.toNat = true then some (.int .i64 1) else none
  | _ => none
theorem safeF_nat (S : Nat → Option (List Int)) (k : Nat) : safeF S (.int .i64 k) = (S k).map cellV := by
  simp [safeF]
theorem flF_nat (F : Nat → Bool) (k : Nat) : flF F (.int .i64 k) = if F k = true then some (.int .i64 1) else none := by
  simp [flF]
/-- A block that a device's calls write. -/
def OwnD (v : Value) (s f : Nat) (b : Nat) : Prop := some b = v.ownBlock ∨ b = s ∨ b = f
structure HasD (w : World) (p : Nat) (v : Value) (s f : Nat) (d : Dev) : Prop where
  ptr : w.heap[p]? = some (.cells #[v, .map (some s), .map (some f)] 113 (0, 0))
  row : Kd.R (Kd.int .u8) 5 w 0 (fun k => k ≠ p) v d.B
  safe : MapF Try.prog 3 w s (safeF d.S)
  fl : MapF Try.prog 3 w f (flF d.F)
  ne : s ≠ f
  ok : d.Ok
theorem own_blk {α : Type} {k : Kd α} {e : Nat} {w : World} {base : Nat} {ok : Nat → Prop} {v : Value} {xs : List α} (h : k.R e w base ok v xs) {b : Nat} (hb : some b = v.ownBlock) : ∃ cs t fr, w.heap[b]? = some (.cells cs t fr) := by
  obtain ⟨_, inner, ho, _⟩ := h
  obtain ⟨cs, hc⟩ := own_typed ho b hb.symm
  exact ⟨_, _, _, hc⟩
section
variable {w w1 : World} {p : Nat} {v : Value} {s f : Nat} {d : Dev}
theorem HasD.own_lt (h : HasD w p v s f d) {b : Nat} (hb : OwnD v s f b) : b < w.heap.size := by
  rcases hb with hb | rfl | rfl
  · obtain ⟨cs, t, fr, hc⟩ := own_blk h.row hb
    exact blk_lt hc
  · exact h.safe.lt
  · exact h.fl.lt
theorem HasD.p_lt (h : HasD w p v s f d) : p < w.heap.size := blk_lt h.ptr
theorem HasD.p_own (h : HasD w p v s f d) : ¬ OwnD v s f p := by
  rintro (hb | hb | hb)
  · exact h.row.1 p hb.symm rfl
  · exact h.safe.ne_cells h.ptr hb
  · exact h.fl.ne_cells h.ptr hb
theorem HasD.v_ne (h : HasD w p v s f d) {b : Nat} (hb : some b = v.ownBlock) : b ≠ s ∧ b ≠ f := by
  obtain ⟨cs, t, fr, hc⟩ := own_blk h.row hb
  exact ⟨h.safe.ne_cells hc, h.fl.ne_cells hc⟩
theorem R_at {e : Nat} {ok : Nat → Prop} {xs : List Int} (h : Kd.R (Kd.int .u8) e w 0 ok v xs) (hb : ∀ b, some b = v.ownBlock → w1.heap[b]? = w.heap[b]?) : Kd.R (Kd.int .u8) e w1 0 ok v xs := by
  exact Kd.R_of_own (own_move (Kd.own_of_R h) (fun k hk => hb k hk.symm)) h.1
theorem HasD.same (h : HasD w p v s f d) (hp : w1.heap[p]? = w.heap[p]?) (hb : ∀ b, OwnD v s f b → w1.heap[b]? = w.heap[b]?) : HasD w1 p v s f d :=
  ⟨hp.trans h.ptr, R_at h.row (fun b h => hb b (.inl h)), h.safe.same (hb s (.inr (.inl rfl))), h.fl.same (hb f (.inr (.inr rfl))), h.ne, h.ok⟩
theorem HasD.fr {T : Nat → Prop} (h : HasD w p v s f d) (hf : Fr T w w1) (hp : ¬ T p) (hb : ∀ b, OwnD v s f b → ¬ T b) : HasD w1 p v s f d :=
  h.same (hf.block p h.p_lt hp) (fun b hb' => hf.block b (h.own_lt hb') (hb b hb'))
theorem HasD.move (h : HasD w p v s f d) (hb : Below w.heap.size w w1) : HasD w1 p v s f d :=
  h.same (hb.block p h.p_lt) (fun b hb' => hb.block b (h.own_lt hb'))
theorem HasD.reads (h : HasD w p v s f d) : ∃ A c, v = .slice A d.B.length c ∧ d.B.length ≤ c ∧ ReadsInt w .u8 A d.B.length d.B := reads_own2 h.row
theorem room_int {g : Lit → Option Value} (n : Nat) (h : ∀ kl, (g kl).isSome = true → ∃ k : Nat, k < n ∧ kl = .int .i64 k) : RoomF g n := by
  refine ⟨(List.range n).map (fun (k : Nat) => Lit.int .i64 k), by simp, fun kl hk => ?_⟩
  obtain ⟨k, hk1, rfl⟩ := h kl hk
  exact List.mem_map.2 ⟨k, List.mem_range.2 hk1, rfl⟩
theorem safeF_some {S : Nat → Option (List Int)} {kl : Lit} (h : (safeF S kl).isSome = true) : ∃ k : Nat, kl = .int .i64 k ∧ (S k).isSome = true := by
  unfold safeF at h
  split at h
  · rename_i a
    split at h
    · rename_i ha
      refine ⟨a.toNat, by rw [Int.toNat_of_nonneg ha], by simpa using h⟩
    · cases h
  · cases h
theorem flF_some {F : Nat → Bool} {kl : Lit} (h : (flF F kl).isSome = true) : ∃ k : Nat, kl = .int .i64 k ∧ F k = true := by
  unfold flF at h
  split at h
  · rename_i a
    split at h
    · rename_i ha
      exact ⟨a.toNat, by rw [Int.toNat_of_nonneg ha.1], ha.2⟩
    · cases h
  · cases h
theorem Dev.Ok.roomS {d : Dev} (h : d.Ok) : RoomF (safeF d.S) 8192 := room_int 8192 (fun kl hk => by
  obtain ⟨k, rfl, hs⟩ := safeF_some hk
  exact ⟨k, by have := h.dom k hs; have := h.max; omega, rfl⟩)
theorem Dev.Ok.roomF {d : Dev} (h : d.Ok) : RoomF (flF d.F) 8192 := room_int 8192 (fun kl hk => by
  obtain ⟨k, rfl, hs⟩ := flF_some hk
  exact ⟨k, by have := h.dom k (h.sub k hs); have := h.max; omega, rfl⟩)
end
theorem len_calls (w : World) (p : Nat) (v : Value) (s f : Nat) (d : Dev) (h : HasD w p v s f d) :
    Calls Try.prog 28 #[.pointer (some ⟨p, 0, none⟩)] w fun e w' => e = .returned (.int .i64 d.B.length) ∧ w = w' := by
  obtain ⟨A, c, rfl, _, _⟩ := h.reads
  have c0 := blk_cell h.ptr (i := 0) rfl
  clear h
  go_enter Try.func28, Try.ntmps28
  go_wp2
  go_ret
  exact ⟨rfl, rfl⟩
theorem bytes_calls (w : World) (p : Nat) (v : Value) (s f : Nat) (d : Dev) (h : HasD w p v s f d) :
    Calls Try.prog 22 #[.pointer (some ⟨p, 0, none⟩)] w fun e w' => ∃ u : Value, e = .returned u ∧ Kd.R (Kd.int .u8) 5 w' w.heap.size (fun _ => True) u d.B ∧ Below w.heap.size w w' := by
  obtain ⟨A, c, rfl, _, hr⟩ := h.reads
  have c0 := blk_cell h.ptr (i := 0) rfl
  have HR := Aside0.mk hr
  have hm := h.ok.max
  clear h hr
  go_enter Try.func22, Try.ntmps22
  go_wp2_with (go_at_call 61; (with_reducible refine (clone_bytes A c d.B w HR.out (by omega)).mono ?_); rintro e w' ⟨u, rfl, hu, hb⟩)
  go_ret
  exact ⟨u, rfl, hu, hb⟩
/-- What is amiss with bytes. -/
def insE (n : Nat) (at_ long : Int) : Int := if long < 0 then 1 else if at_ < 0 ∨ long > n ∨ at_ > n - long then 30 else 0
theorem ins_calls (w : World) (p : Nat) (v : Value) (s f : Nat) (d : Dev) (at_ long : Int) (h : HasD w p v s f d) :
    Calls Try.prog 62 #[.pointer (some ⟨p, 0, none⟩), .int .i64 at_, .int .i64 long] w fun e w' => e = .returned (.int .i64 (insE d.B.length at_ long)) ∧ w = w' := by
  obtain ⟨A, c, rfl, _, hr⟩ := h.reads
  have c0 := blk_cell h.ptr (i := 0) rfl
  have hm := h.ok.max
  clear h hr
  by_cases h1 : long < 0
  · have HE := Aside0.mk (show insE d.B.length at_ long = 1 by rw [insE, if_pos h1])
    go_enter Try.func62, Try.ntmps62
    go_wp2
    go_ret
    exact ⟨by rw [HE.out]; rfl, rfl⟩
  · by_cases h2 : at_ < 0
    · have HE := Aside0.mk (show insE d.B.length at_ long = 30 by rw [insE, if_neg h1, if_pos (.inl h2)])
      go_enter Try.func62, Try.ntmps62
      go_wp2
      go_ret
      exact ⟨by rw [HE.out]; rfl, rfl⟩
    · by_cases h3 : long > d.B.length
      · have HE := Aside0.mk (show insE d.B.length at_ long = 30 by rw [insE, if_neg h1, if_pos (.inr (.inl h3))])
        go_enter Try.func62, Try.ntmps62
        go_wp2
        go_ret
        exact ⟨by rw [HE.out]; rfl, rfl⟩
      · by_cases h4 : at_ > d.B.length - long
        · have HE := Aside0.mk (show insE d.B.length at_ long = 30 by rw [insE, if_neg h1, if_pos (.inr (.inr h4))])
          go_enter Try.func62, Try.ntmps62
          go_wp2
          go_ret
          exact ⟨by rw [HE.out]; rfl, rfl⟩
        · have HE := Aside0.mk (show insE d.B.length at_ long = 0 by rw [insE, if_neg h1, if_neg (by omega)])
          go_enter Try.func62, Try.ntmps62
          go_wp2
          go_ret
          exact ⟨by rw [HE.out]; rfl, rfl⟩
theorem arr_run (a : Addr) (n c : Nat) (h : 8 ≤ n) (W : World) : (Instr.arrayAt 116 (.slice (some a) n c)).run Try.prog W = .ok (.pointer (some a)) W := by
  simp [Instr.arrayAt, run_underlying Try.underlying116, Nat.not_lt.2 h]
theorem row_at8 {w : World} {A : Option Addr} {B : List Int} (hr : ReadsInt w .u8 A B.length B) {k : Nat} (hk : 8 * k + 8 ≤ B.length) :
    ∃ bb ob, A = some ⟨bb, ob, none⟩ ∧ ∀ j, j < 8 → w.cell? ⟨bb, ob + k * 8 + j, none⟩ = some (.int .u8 (rd B (8 * k + j : Nat))) := by
  obtain ⟨ad, rfl, hx⟩ := hr.2.2 (by omega)
  have h0 := hx 0 (by omega)
  obtain ⟨bb, ob, sp⟩ := ad
  obtain rfl : sp = none := by
    have := spot_none h0
    cases sp with
    | none => rfl
    | some x => simp [Addr.add] at this
  refine ⟨bb, ob, rfl, fun j hj => ?_⟩
  have := hx (8 * k + j) (by omega)
  rw [add_plain] at this
  rw [show ob + k * 8 + j = ob + (8 * k + j) by omega, this]
  rfl
theorem word_list {B : List Int} {k : Nat} (hk : 8 * k + 8 ≤ B.length) : word B k = [rd B (8 * k + 0 : Nat), rd B (8 * k + 1 : Nat), rd B (8 * k + 2 : Nat), rd B (8 * k + 3 : Nat), rd B (8 * k + 4 : Nat), rd B (8 * k + 5 : Nat), rd B (8 * k + 6 : Nat), rd B (8 * k + 7 : Nat)] := by
  apply List.ext_getElem?
  intro i
  rw [word, cut]
  by_cases hi : i < 8
  · rw [List.getElem?_take_of_lt hi, List.getElem?_drop, List.getElem?_eq_getElem (by omega)]
    have hr : ∀ j : Nat, j < B.length → rd B (j : Nat) = B.getD j 0 := fun j _ => by simp [rd]
    rcases (show i = 0 ∨ i = 1 ∨ i = 2 ∨ i = 3 ∨ i = 4 ∨ i = 5 ∨ i = 6 ∨ i = 7 by omega) with rfl | rfl | rfl | rfl | rfl | rfl | rfl | rfl <;> simp only [List.getElem?_cons_zero, List.getElem?_cons_succ] <;> rw [hr _ (by omega), List.getD_eq_getElem?_getD, List.getElem?_eq_getElem (by omega)] <;> rfl
  · rw [List.getElem?_eq_none (by rw [List.length_take]; omega), List.getElem?_eq_none (by simp; omega)]
set_option maxRecDepth 100000 in
/-- A word of a row, loaded as an array. -/
theorem at_calls (w : World) (p : Nat) (v : Value) (s f : Nat) (d : Dev) (k : Nat) (h : HasD w p v s f d) (hk : 8 * k + 8 ≤ d.B.length) :
    Calls Try.prog 65 #[.pointer (some ⟨p, 0, none⟩), .int .i64 k] w fun e w' => e = .returned (cellV (word d.B k)) ∧ Below w.heap.size w w' := by
  obtain ⟨A, c, rfl, hc, hr⟩ := h.reads
  have c0 := blk_cell h.ptr (i := 0) rfl
  have c1 := cell_alloc c0
  have hm := h.ok.max
  obtain ⟨bb, ob, rfl, hx⟩ := row_at8 hr hk
  have harr := fun W => arr_run ⟨bb, ob + k * 8, none⟩ (d.B.length - k * 8) (c - k * 8) (by omega) W
  have HW := Aside0.mk (word_list hk)
  have x0 : ∀ o, (w.alloc o).cell? ⟨bb, ob + k * 8, none⟩ = some (.int .u8 (rd d.B (8 * k + 0 : Nat))) := cell_alloc (hx 0 (by omega))
  have x1 := cell_alloc (hx 1 (by omega))
  have x2 := cell_alloc (hx 2 (by omega))
  have x3 := cell_alloc (hx 3 (by omega))
  have x4 := cell_alloc (hx 4 (by omega))
  have x5 := cell_alloc (hx 5 (by omega))
  have x6 := cell_alloc (hx 6 (by omega))
  have x7 := cell_alloc (hx 7 (by omega))
  generalize rd d.B (8 * k + 0 : Nat) = y0 at HW x0
  generalize rd d.B (8 * k + 1 : Nat) = y1 at HW x1
  generalize rd d.B (8 * k + 2 : Nat) = y2 at HW x2
  generalize rd d.B (8 * k + 3 : Nat) = y3 at HW x3
  generalize rd d.B (8 * k + 4 : Nat) = y4 at HW x4
  generalize rd d.B (8 * k + 5 : Nat) = y5 at HW x5
  generalize rd d.B (8 * k + 6 : Nat) = y6 at HW x6
  generalize rd d.B (8 * k + 7 : Nat) = y7 at HW x7
  clear h c0 hx hr
  go_enter Try.func65, Try.ntmps65
  go_wp2
  refine bodyPost_ret (results_cell_row rfl _ _ w.heap.size _ _ _ _ rfl (heap_alloc_new _ _) Try.underlying116 rfl (by kernel_rfl)) rfl ?_
  rw [HW.out]
  exact ⟨rfl, below_alloc (Below.refl _ _) _⟩
/-- What each leaves. -/
def EachRes (a long : Nat) (Inv : Nat → World → Prop) (e : Ending) (w' : World) : Prop :=
  e = .returned (.tuple #[]) ∧ ∃ k, a / 8 ≤ k ∧ (0 < long → a + long ≤ 8 * k) ∧ (∀ j, a / 8 ≤ j → j < k → 8 * j < a + long ∧ 0 < long) ∧ Inv k w'
set_option maxRecDepth 100000 in
/-- each: the words of which some byte is among the bytes, one by one. -/
theorem each_write (q : Nat) (a long : Nat) (Inv : Nat → World → Prop) (w : World) (ha : a + long ≤ 65536) (h0 : Inv (a / 8) w)
    (hstep : ∀ k W, a / 8 ≤ k → 8 * k < a + long → 0 < long → Inv k W → Calls Try.prog 64 #[.int .i64 k, .pointer (some ⟨q, 0, none⟩)] W fun e W' => e = .returned (.tuple #[]) ∧ Inv (k + 1) W') :
    Calls Try.prog 63 #[.int .i64 a, .int .i64 long, .func (.func 64) #[] #[.pointer (some ⟨q, 0, none⟩)]] w (EachRes a long Inv) := by
  have HS := Aside0.mk hstep
  have H0 := Aside0.mk h0
  clear hstep h0
  go_enter Try.func63, Try.ntmps63
  go_wp2
  go_loopw [6] (fun i wr => ∃ k : Nat, i = .int .i64 k ∧ a / 8 ≤ k ∧ 8 * k < a + long + 8 ∧ Aside0 (∀ j, a / 8 ≤ j → j < k → 8 * j < a + long ∧ 0 < long) ∧ Aside0 (Inv k wr)) (fun i _ => (a + long + 8 - 8 * intOf i).toNat)
  case atStart => exact ⟨a / 8, by go_num, Nat.le_refl _, by omega, ⟨fun j h1 h2 => by omega⟩, H0⟩
  case round =>
    obtain ⟨k, rfl, hk1, hk2, HJ, HI⟩ := hrel
    by_cases hl : 0 < long
    · by_cases hlt : 8 * k < a + long
      · go_wp2_with (go_at_call 64; (with_reducible refine (HS.out k wr hk1 hlt hl HI.out).mono ?_); rintro e w' ⟨rfl, hi⟩; have HI1 := Aside0.mk hi; clear hi)
        refine ⟨⟨k + 1, by go_num, by omega, by omega, ⟨fun j h1 h2 => ?_⟩, HI1⟩, by simp [intOf]; omega⟩
        by_cases hj : j = k
        · subst hj; exact ⟨hlt, hl⟩
        · exact HJ.out j h1 (by omega)
      · have hlt2 : ¬ (k : Int) * 8 < a + long := by omega
        go_wp2
        go_end0
        exact ⟨rfl, k, hk1, fun _ => by omega, HJ.out, HI.out⟩
    · obtain rfl : long = 0 := by omega
      go_wp2
      go_end0
      exact ⟨rfl, k, hk1, fun h => absurd h (by omega), HJ.out, HI.out⟩
set_option maxRecDepth 100000 in
/-- each: the words of which some byte is among the bytes, one by one. -/
theorem each_flush (q : Nat) (a long : Nat) (Inv : Nat → World → Prop) (w : World) (ha : a + long ≤ 65536) (h0 : Inv (a / 8) w)
    (hstep : ∀ k W, a / 8 ≤ k → 8 * k < a + long → 0 < long → Inv k W → Calls Try.prog 66 #[.int .i64 k, .pointer (some ⟨q, 0, none⟩)] W fun e W' => e = .returned (.tuple #[]) ∧ Inv (k + 1) W') :
    Calls Try.prog 63 #[.int .i64 a, .int .i64 long, .func (.func 66) #[] #[.pointer (some ⟨q, 0, none⟩)]] w (EachRes a long Inv) := by
  have HS := Aside0.mk hstep
  have H0 := Aside0.mk h0
  clear hstep h0
  go_enter Try.func63, Try.ntmps63
  go_wp2
  go_loopw [6] (fun i wr => ∃ k : Nat, i = .int .i64 k ∧ a / 8 ≤ k ∧ 8 * k < a + long + 8 ∧ Aside0 (∀ j, a / 8 ≤ j → j < k → 8 * j < a + long ∧ 0 < long) ∧ Aside0 (Inv k wr)) (fun i _ => (a + long + 8 - 8 * intOf i).toNat)
  case atStart => exact ⟨a / 8, by go_num, Nat.le_refl _, by omega, ⟨fun j h1 h2 => by omega⟩, H0⟩
  case round =>
    obtain ⟨k, rfl, hk1, hk2, HJ, HI⟩ := hrel
    by_cases hl : 0 < long
    · by_cases hlt : 8 * k < a + long
      · go_wp2_with (go_at_call 66; (with_reducible refine (HS.out k wr hk1 hlt hl HI.out).mono ?_); rintro e w' ⟨rfl, hi⟩; have HI1 := Aside0.mk hi; clear hi)
        refine ⟨⟨k + 1, by go_num, by omega, by omega, ⟨fun j h1 h2 => ?_⟩, HI1⟩, by simp [intOf]; omega⟩
        by_cases hj : j = k
        · subst hj; exact ⟨hlt, hl⟩
        · exact HJ.out j h1 (by omega)
      · have hlt2 : ¬ (k : Int) * 8 < a + long := by omega
        go_wp2
        go_end0
        exact ⟨rfl, k, hk1, fun _ => by omega, HJ.out, HI.out⟩
    · obtain rfl : long = 0 := by omega
      go_wp2
      go_end0
      exact ⟨rfl, k, hk1, fun h => absurd h (by omega), HJ.out, HI.out⟩
end Go.Proofs.Ytbfogcckbhkciaa.Hand
namespace Go.Proofs.Ytbfogcckbhkciaa.Hand
open Go.RowKit Go.Maps Go.Proofs.YtbfogcckbhkciaaW.PrintWords

theorem Fr.cell {S : Nat → Prop} {w w1 : World} (h : Fr S w w1) {a : Addr} {v : Value} (hc : w.cell? a = some v) (hs : ¬ S a.block) : w1.cell? a = some v := by
  have hb := h.block a.block (World.block_lt_of_cell? _ _ hc) hs
  rw [← hc]
  simp only [World.cell?, hb]
/-- The blocks of a device's maps. -/
def MapsD (s f b : Nat) : Prop := b = s ∨ b = f
theorem law_int : Keyed Try.prog 3 := int_keyed Try.underlying3
def cell0 : Value := .agg #[.int .u8 0, .int .u8 0, .int .u8 0, .int .u8 0, .int .u8 0, .int .u8 0, .int .u8 0, .int .u8 0]
theorem zero_cell (w : World) : (zeroValue 116).run Try.prog w = .ok (.agg #[.int .u8 0, .int .u8 0, .int .u8 0, .int .u8 0, .int .u8 0, .int .u8 0, .int .u8 0, .int .u8 0]) w := by kernel_rfl
theorem zero_int (w : World) : (zeroValue 3).run Try.prog w = .ok (.int .i64 0) w := by kernel_rfl
theorem key_nat {k : Nat} (h : k < 9223372036854775808) : keyOf Try.prog 3 (.int .i64 k) = some (.int .i64 k) := by
  refine keyOf_int_mk Try.underlying3 ?_
  simp only [Lit.wf, IntKind.min, IntKind.max, IntKind.signed, IntKind.bits, Bool.and_eq_true]
  simp
  omega
theorem list8 {c : List Int} (h : c.length = 8) : ∃ y0 y1 y2 y3 y4 y5 y6 y7, c = [y0, y1, y2, y3, y4, y5, y6, y7] := by
  match c, h with
  | [a, b, c, d, e, f, g, h], _ => exact ⟨a, b, c, d, e, f, g, h, rfl⟩
/-- One word is loose, and not flushed. -/
def Dev.touch (d : Dev) (k : Nat) : Dev := { B := d.B, S := fun j => if j = k then some ((d.S k).getD (word d.B k)) else d.S j, F := fun j => d.F j && !(j == k) }
theorem word_length {B : List Int} {k : Nat} (h : 8 * k + 8 ≤ B.length) : (word B k).length = 8 := cut_length h
theorem word_bys {B : List Int} (h : Bys B) (k : Nat) : Bys (word B k) := cut_bys h _ _
theorem Dev.Ok.touch {d : Dev} (h : d.Ok) {k : Nat} (hk : 8 * k + 8 ≤ d.B.length) : (d.touch k).Ok := by
  refine ⟨h.len, h.max, h.bys, fun j hj => ?_, fun j c hj => ?_, fun j hj => ?_⟩
  · by_cases e : j = k
    · subst e; exact hk
    · exact h.dom j (by simpa [Dev.touch, e] using hj)
  · by_cases e : j = k
    · subst e
      simp only [Dev.touch, if_true, Option.some.injEq] at hj
      cases hs : d.S j with
      | some c' =>
        rw [hs] at hj
        obtain rfl : c' = c := hj
        exact h.safe j c' hs
      | none =>
        rw [hs] at hj
        obtain rfl : word d.B j = c := hj
        exact ⟨word_length hk, word_bys h.bys j⟩
    · exact h.safe j c (by simpa [Dev.touch, e] using hj)
  · simp only [Dev.touch, Bool.and_eq_true] at hj ⊢
    by_cases e : j = k
    · simp [e] at hj
    · rw [if_neg e]
      exact h.sub j hj.1
theorem sameKey_int (q : IntKind) (a : Int) : (Lit.int q a).sameKey (.int q a) = true := WideAt.sameKey_self trivial
theorem safeF_touch (d : Dev) (k : Nat) (x : Lit) : safeF (d.touch k).S x = updF (safeF d.S) (.int .i64 k) (cellV ((d.S k).getD (word d.B k))) x := by
  by_cases hx : x = .int .i64 k
  · subst hx
    rw [safeF_nat, updF, if_pos (sameKey_int _ _)]
    simp [Dev.touch]
  · rw [updF, if_neg (by rw [sameKey_ne hx]; simp)]
    unfold safeF
    split
    · rename_i a
      split
      · rename_i ha
        have : a.toNat ≠ k := fun e => hx (by rw [← e, Int.toNat_of_nonneg ha])
        simp [Dev.touch, this]
      · rfl
    · rfl
theorem flF_touch (d : Dev) (k : Nat) (x : Lit) : flF (d.touch k).F x = delF (flF d.F) (.int .i64 k) x := by
  by_cases hx : x = .int .i64 k
  · subst hx
    rw [flF_nat, delF, if_pos (sameKey_int _ _)]
    simp [Dev.touch]
  · rw [delF, if_neg (by rw [sameKey_ne hx]; simp)]
    unfold flF
    split
    · rename_i a
      by_cases ha : 0 ≤ a
      · have : a.toNat ≠ k := fun e => hx (by rw [← e, Int.toNat_of_nonneg ha])
        simp [Dev.touch, this]
      · simp [ha]
    · rfl
theorem getD_some8 {S : Nat → Option (List Int)} {k : Nat} {c : List Int} (h : S k = some c) : safeF S (.int .i64 k) = some (cellV c) := by rw [safeF_nat, h]; rfl
theorem getD_none8 {S : Nat → Option (List Int)} {k : Nat} (h : S k = none) : safeF S (.int .i64 k) = none := by rw [safeF_nat, h]; rfl
set_option maxRecDepth 100000 in
theorem w1_yes (p q : Nat) (v : Value) (s f : Nat) (d : Dev) (k : Nat) (c : List Int) (w : World) (h : HasD w p v s f d) (hq : w.cell? ⟨q, 0, none⟩ = some (.pointer (some ⟨p, 0, none⟩))) (hk : 8 * k + 8 ≤ d.B.length) (hc : d.S k = some c) :
    Calls Try.prog 64 #[.int .i64 k, .pointer (some ⟨q, 0, none⟩)] w fun e w' => e = .returned (.tuple #[]) ∧ HasD w' p v s f (d.touch k) ∧ Fr (MapsD s f) w w' := by
  have HH := Aside0.mk h
  have c1 := blk_cell h.ptr (i := 1) rfl
  have c2 := blk_cell h.ptr (i := 2) rfl
  have C1 := Aside0.mk (cell_alloc c1)
  have d2 := cell_alloc c2
  have hq2 := cell_alloc hq
  have hm := h.ok.max
  have HKY := Aside0.mk (key_nat (k := k) (by omega))
  obtain ⟨y0, y1, y2, y3, y4, y5, y6, y7, rfl⟩ := list8 (h.ok.safe k c hc).1
  have HM := Aside0.mk h.safe
  have HF := Aside0.mk (h.fl.below (below_alloc (Below.refl w.heap.size w) (.cells #[.int .u8 y0, .int .u8 y1, .int .u8 y2, .int .u8 y3, .int .u8 y4, .int .u8 y5, .int .u8 y6, .int .u8 y7] 116)))
  have HG := Aside0.mk (getD_some8 hc)
  have HC := Aside0.mk hc
  clear h hc c2
  go_enter Try.func64, Try.ntmps64
  go_wp2_with (first | (at_lookup; refine wpList_look rfl (.tmp 9) (.tmp 10) 110 rfl law_int Try.underlying110 (zero_cell _) rfl HM.out (.int .i64 k) (.int .i64 k) rfl HKY.out (some (.agg #[.int .u8 y0, .int .u8 y1, .int .u8 y2, .int .u8 y3, .int .u8 y4, .int .u8 y5, .int .u8 y6, .int .u8 y7])) HG.out ?_) | (at_delete; refine wpList_del rfl (.tmp 27) (.tmp 28) 111 rfl law_int Try.underlying111 rfl HF.out (.int .i64 k) (.int .i64 k) rfl HKY.out ?_; intro w2 hm2 ht2))
  go_end0
  refine ⟨rfl, ?_, ?_⟩
  · have hfr : Fr (fun b => b = f) w w2 := ((Fr.refl _ _).alloc _).trans' (ht2.fr rfl)
    have hne : ∀ b, b ≠ f → b < w.heap.size → w2.heap[b]? = w.heap[b]? := fun b hb hl => hfr.block b hl hb
    refine ⟨(hne p (fun e => HH.out.p_own (.inr (.inr e))) HH.out.p_lt).trans HH.out.ptr, R_at HH.out.row (fun b hb => hne b (HH.out.v_ne hb).2 (HH.out.own_lt (.inl hb))), ?_, hm2.congr (fun kl => (flF_touch d k kl).symm), HH.out.ne, HH.out.ok.touch hk⟩
    refine (HH.out.safe.same (hne s HH.out.ne HH.out.safe.lt)).congr (fun kl => ?_)
    rw [safeF_touch, updF]
    split
    · rename_i hkl
      obtain rfl := WideAt.sameKey_eq hkl
      rw [safeF_nat, HC.out]
      rfl
    · rfl
  · exact ((Fr.refl _ _).alloc _).trans' (ht2.fr (.inr rfl))
set_option maxRecDepth 100000 in
theorem w1_no (p q : Nat) (v : Value) (s f : Nat) (d : Dev) (k : Nat) (w : World) (h : HasD w p v s f d) (hq : w.cell? ⟨q, 0, none⟩ = some (.pointer (some ⟨p, 0, none⟩))) (hqo : ¬ OwnD v s f q) (hk : 8 * k + 8 ≤ d.B.length) (hc : d.S k = none) :
    Calls Try.prog 64 #[.int .i64 k, .pointer (some ⟨q, 0, none⟩)] w fun e w' => e = .returned (.tuple #[]) ∧ HasD w' p v s f (d.touch k) ∧ Fr (MapsD s f) w w' := by
  have HH := Aside0.mk h
  have HQ := Aside0.mk hq
  have c1 := blk_cell h.ptr (i := 1) rfl
  have d1 := cell_alloc c1
  have hq2 := cell_alloc hq
  have hm := h.ok.max
  have HKY := Aside0.mk (key_nat (k := k) (by omega))
  have HM := Aside0.mk h.safe
  have HG := Aside0.mk (getD_none8 hc)
  have HC := Aside0.mk hc
  clear h hc
  go_enter Try.func64, Try.ntmps64
  go_wp2_with (at_lookup; refine wpList_look rfl (.tmp 9) (.tmp 10) 110 rfl law_int Try.underlying110 (zero_cell _) rfl HM.out (.int .i64 k) (.int .i64 k) rfl HKY.out none HG.out ?_)
  obtain ⟨wb, hwb⟩ : ∃ wb, wb = w.alloc (Obj.cells #[.int .u8 0, .int .u8 0, .int .u8 0, .int .u8 0, .int .u8 0, .int .u8 0, .int .u8 0, .int .u8 0] 116) := ⟨_, rfl⟩
  have HBb := Aside0.mk (show Below w.heap.size w wb by rw [hwb]; exact below_alloc (Below.refl _ _) _)
  have HSb := Aside0.mk (HH.out.move HBb.out)
  have b0 : wb.cell? ⟨q, 0, none⟩ = some (.pointer (some ⟨p, 0, none⟩)) := by rw [hwb]; exact hq2 _
  have b1 : wb.cell? ⟨p, 1, none⟩ = some (.map (some s)) := by rw [hwb]; exact d1 _
  rw [← hwb]
  have HBd := Aside0.mk HBb.out.drew
  have HSd := Aside0.mk (HSb.out.move (Below.refl _ _).drew)
  have b0d : wb.drew.cell? ⟨q, 0, none⟩ = some (.pointer (some ⟨p, 0, none⟩)) := b0
  have b1d : wb.drew.cell? ⟨p, 1, none⟩ = some (.map (some s)) := b1
  clear hwb d1 hq2 c1 hq
  go_region_held (fun w' => w'.cell? ⟨q, 0, none⟩ = some (.pointer (some ⟨p, 0, none⟩)) ∧ w'.cell? ⟨p, 1, none⟩ = some (.map (some s))) (go_keep) (first | (go_at_call 65; (with_reducible refine (at_calls wb.drew p v s f d k HSd.out hk).mono ?_); rintro e w2 ⟨rfl, hb2⟩; have HS2 := Aside0.mk (HSd.out.move hb2); have HB2 := Aside0.mk (bel_step HBd.out hb2); have g0 := (hb2.cell (World.block_lt_of_cell? _ _ b0d)).trans b0d; have g1 := (hb2.cell (World.block_lt_of_cell? _ _ b1d)).trans b1d; obtain ⟨w3, hr3, hm3, ht3⟩ := HS2.out.safe.upd law_int Try.underlying110 HS2.out.ok.roomS (by decide) (val := cellV (word d.B k)) HKY.out; have HM3 := Aside0.mk hm3; have HT3 := Aside0.mk ht3; have i0 := (ht3.fr (S := fun b => b = s) rfl).cell g0 (fun e => hqo (.inr (.inl e))); have i1 := (ht3.fr (S := fun b => b = s) rfl).cell g1 (fun e => HH.out.p_own (.inr (.inl e))); clear hb2 hm3 ht3))
  have HF3 := Aside0.mk (HS2.out.fl.fr (HT3.out.fr (S := fun b => b = s) rfl) (fun e => HH.out.ne e.symm))
  have i2 := (HT3.out.fr (S := fun b => b = s) rfl).cell (blk_cell HS2.out.ptr (i := 2) rfl) (fun e => HH.out.p_own (.inr (.inl e)))
  clear hr3
  go_wp2_with (at_delete; refine wpList_del rfl (.tmp 27) (.tmp 28) 111 rfl law_int Try.underlying111 rfl HF3.out (.int .i64 k) (.int .i64 k) rfl HKY.out ?_; intro w4 hm4 ht4)
  go_end0
  have hfr : Fr (fun b => b = s ∨ b = f) w2 w4 := (HT3.out.fr (S := fun b => b = s ∨ b = f) (.inl rfl)).trans' (ht4.fr (.inr rfl))
  have hS := HS2.out
  refine ⟨rfl, ?_, ((Fr.of_below HB2.out _).trans' (hfr.mono (fun b hb => ?_)))⟩
  · refine ⟨(hfr.block p hS.p_lt (fun e => hS.p_own (.inr e))).trans hS.ptr, R_at hS.row (fun b hb => hfr.block b (hS.own_lt (.inl hb)) (fun e => by rcases e with e | e; exact (hS.v_ne hb).1 e; exact (hS.v_ne hb).2 e)), ?_, hm4.congr (fun kl => (flF_touch d k kl).symm), hS.ne, hS.ok.touch hk⟩
    refine (HM3.out.fr (ht4.fr (S := fun b => b = f) rfl) hS.ne).congr (fun kl => ?_)
    rw [safeF_touch, HC.out]
    rfl
  · exact hb
theorem w1_calls (p q : Nat) (v : Value) (s f : Nat) (d : Dev) (k : Nat) (w : World) (h : HasD w p v s f d) (hq : w.cell? ⟨q, 0, none⟩ = some (.pointer (some ⟨p, 0, none⟩))) (hqo : ¬ OwnD v s f q) (hk : 8 * k + 8 ≤ d.B.length) :
    Calls Try.prog 64 #[.int .i64 k, .pointer (some ⟨q, 0, none⟩)] w fun e w' => e = .returned (.tuple #[]) ∧ HasD w' p v s f (d.touch k) ∧ Fr (MapsD s f) w w' := by
  cases hc : d.S k with
  | some c => exact w1_yes p q v s f d k c w h hq hk hc
  | none => exact w1_no p q v s f d k w h hq hqo hk hc
/-- One word is flushed, if it is loose. -/
def Dev.mark (d : Dev) (k : Nat) : Dev := { d with F := fun j => d.F j || (j == k && (d.S k).isSome) }
theorem Dev.Ok.mark {d : Dev} (h : d.Ok) (k : Nat) : (d.mark k).Ok := by
  refine ⟨h.len, h.max, h.bys, h.dom, h.safe, fun j hj => ?_⟩
  simp only [Dev.mark, Bool.or_eq_true, Bool.and_eq_true, beq_iff_eq] at hj ⊢
  rcases hj with hj | ⟨rfl, hj⟩
  · exact h.sub j hj
  · exact hj
theorem flF_mark (d : Dev) (k : Nat) (hs : (d.S k).isSome = true) (x : Lit) : flF (d.mark k).F x = updF (flF d.F) (.int .i64 k) (.int .i64 1) x := by
  by_cases hx : x = .int .i64 k
  · subst hx
    rw [flF_nat, updF, if_pos (sameKey_int _ _)]
    simp [Dev.mark, hs]
  · rw [updF, if_neg (by rw [sameKey_ne hx]; simp)]
    unfold flF
    split
    · rename_i a
      by_cases ha : 0 ≤ a
      · have : a.toNat ≠ k := fun e => hx (by rw [← e, Int.toNat_of_nonneg ha])
        simp [Dev.mark, this]
      · simp [ha]
    · rfl
set_option maxRecDepth 100000 in
theorem f1_no (p q : Nat) (v : Value) (s f : Nat) (d : Dev) (k : Nat) (w : World) (h : HasD w p v s f d) (hq : w.cell? ⟨q, 0, none⟩ = some (.pointer (some ⟨p, 0, none⟩))) (hk : 8 * k + 8 ≤ d.B.length) (hc : d.S k = none) :
    Calls Try.prog 66 #[.int .i64 k, .pointer (some ⟨q, 0, none⟩)] w fun e w' => e = .returned (.tuple #[]) ∧ HasD w' p v s f (d.mark k) ∧ Fr (MapsD s f) w w' := by
  have HH := Aside0.mk h
  have c1 := blk_cell h.ptr (i := 1) rfl
  have hm := h.ok.max
  have HKY := Aside0.mk (key_nat (k := k) (by omega))
  have HM := Aside0.mk h.safe
  have HG := Aside0.mk (getD_none8 hc)
  have HE := Aside0.mk (show d.mark k = d by
    have : (fun j => d.F j || (j == k && (d.S k).isSome)) = d.F := by funext j; rw [hc]; simp
    rw [Dev.mark, this])
  clear h hc
  go_enter Try.func66, Try.ntmps66
  go_wp2_with (at_lookup; refine wpList_look rfl (.tmp 9) (.tmp 10) 110 rfl law_int Try.underlying110 (zero_cell _) rfl HM.out (.int .i64 k) (.int .i64 k) rfl HKY.out none HG.out ?_)
  go_end0
  rw [HE.out]
  exact ⟨rfl, HH.out.move (below_alloc (Below.refl _ _) _), (Fr.refl _ _).alloc _⟩
set_option maxRecDepth 100000 in
theorem f1_yes (p q : Nat) (v : Value) (s f : Nat) (d : Dev) (k : Nat) (c : List Int) (w : World) (h : HasD w p v s f d) (hq : w.cell? ⟨q, 0, none⟩ = some (.pointer (some ⟨p, 0, none⟩))) (hk : 8 * k + 8 ≤ d.B.length) (hc : d.S k = some c) :
    Calls Try.prog 66 #[.int .i64 k, .pointer (some ⟨q, 0, none⟩)] w fun e w' => e = .returned (.tuple #[]) ∧ HasD w' p v s f (d.mark k) ∧ Fr (MapsD s f) w w' := by
  have HH := Aside0.mk h
  have c1 := blk_cell h.ptr (i := 1) rfl
  have c2 := blk_cell h.ptr (i := 2) rfl
  have d2 := cell_alloc c2
  have hq2 := cell_alloc hq
  have hm := h.ok.max
  have HKY := Aside0.mk (key_nat (k := k) (by omega))
  obtain ⟨y0, y1, y2, y3, y4, y5, y6, y7, rfl⟩ := list8 (h.ok.safe k c hc).1
  have HM := Aside0.mk h.safe
  have HF := Aside0.mk (h.fl.below (below_alloc (Below.refl w.heap.size w) (.cells #[.int .u8 y0, .int .u8 y1, .int .u8 y2, .int .u8 y3, .int .u8 y4, .int .u8 y5, .int .u8 y6, .int .u8 y7] 116)))
  have HG := Aside0.mk (getD_some8 hc)
  have HC := Aside0.mk hc
  clear h hc c2
  go_enter Try.func66, Try.ntmps66
  go_wp2_with (first | (at_lookup; refine wpList_look rfl (.tmp 9) (.tmp 10) 110 rfl law_int Try.underlying110 (zero_cell _) rfl HM.out (.int .i64 k) (.int .i64 k) rfl HKY.out (some (.agg #[.int .u8 y0, .int .u8 y1, .int .u8 y2, .int .u8 y3, .int .u8 y4, .int .u8 y5, .int .u8 y6, .int .u8 y7])) HG.out ?_) | (at_mapUpdate; refine wpList_upd rfl (.tmp 18) (.tmp 19) (.const (.int .i64 1)) 111 rfl law_int Try.underlying111 8192 (by decide) rfl HF.out HH.out.ok.roomF (.int .i64 k) (.int .i64 1) (.int .i64 k) rfl rfl HKY.out ?_; intro w2 hm2 ht2))
  go_end0
  have hfr : Fr (fun b => b = f) w w2 := ((Fr.refl _ _).alloc _).trans' (ht2.fr rfl)
  have hne : ∀ b, b ≠ f → b < w.heap.size → w2.heap[b]? = w.heap[b]? := fun b hb hl => hfr.block b hl hb
  refine ⟨rfl, ?_, hfr.mono (fun b hb => .inr hb)⟩
  exact ⟨(hne p (fun e => HH.out.p_own (.inr (.inr e))) HH.out.p_lt).trans HH.out.ptr, R_at HH.out.row (fun b hb => hne b (HH.out.v_ne hb).2 (HH.out.own_lt (.inl hb))), HH.out.safe.same (hne s HH.out.ne HH.out.safe.lt), hm2.congr (fun kl => (flF_mark d k (by rw [HC.out]; rfl) kl).symm), HH.out.ne, HH.out.ok.mark k⟩
theorem f1_calls (p q : Nat) (v : Value) (s f : Nat) (d : Dev) (k : Nat) (w : World) (h : HasD w p v s f d) (hq : w.cell? ⟨q, 0, none⟩ = some (.pointer (some ⟨p, 0, none⟩))) (hk : 8 * k + 8 ≤ d.B.length) :
    Calls Try.prog 66 #[.int .i64 k, .pointer (some ⟨q, 0, none⟩)] w fun e w' => e = .returned (.tuple #[]) ∧ HasD w' p v s f (d.mark k) ∧ Fr (MapsD s f) w w' := by
  cases hc : d.S k with
  | some c => exact f1_yes p q v s f d k c w h hq hk hc
  | none => exact f1_no p q v s f d k w h hq hk hc
end Go.Proofs.Ytbfogcckbhkciaa.Hand
namespace Go.Proofs.Ytbfogcckbhkciaa.Hand
open Go.RowKit Go.Maps Go.Proofs.YtbfogcckbhkciaaW.PrintWords
set_option linter.unusedVariables false

/-- The words from one up to another are loose, and not flushed. -/
def Dev.touchTo (d : Dev) (a K : Nat) : Dev := { B := d.B, S := fun j => if a ≤ j ∧ j < K then some ((d.S j).getD (word d.B j)) else d.S j, F := fun j => d.F j && !decide (a ≤ j ∧ j < K) }
theorem Dev.touchTo_start (d : Dev) (a : Nat) : d.touchTo a a = d := by
  obtain ⟨B, S, F⟩ := d
  simp only [Dev.touchTo]
  congr 1
  · funext j; rw [if_neg (by omega)]
  · funext j; rw [decide_eq_false (by omega)]; simp
theorem Dev.touchTo_step (d : Dev) {a K : Nat} (h : a ≤ K) : (d.touchTo a K).touch K = d.touchTo a (K + 1) := by
  obtain ⟨B, S, F⟩ := d
  simp only [Dev.touchTo, Dev.touch]
  congr 1
  · funext j
    by_cases hj : j = K
    · subst hj
      rw [if_pos rfl, if_neg (by omega), if_pos (by omega)]
    · rw [if_neg hj]
      by_cases hjk : a ≤ j ∧ j < K
      · rw [if_pos hjk, if_pos (by omega)]
      · rw [if_neg hjk, if_neg (by omega)]
  · funext j
    by_cases hj : j = K
    · subst hj
      rw [decide_eq_true (show a ≤ j ∧ j < j + 1 by omega)]
      simp
    · have : (j == K) = false := by simp [hj]
      rw [this]
      by_cases hjk : a ≤ j ∧ j < K
      · rw [decide_eq_true hjk, decide_eq_true (show a ≤ j ∧ j < K + 1 by omega)]; simp
      · rw [decide_eq_false hjk, decide_eq_false (show ¬ (a ≤ j ∧ j < K + 1) by omega)]; simp
def Dev.markTo (d : Dev) (a K : Nat) : Dev := { d with F := fun j => d.F j || (decide (a ≤ j ∧ j < K) && (d.S j).isSome) }
theorem Dev.markTo_start (d : Dev) (a : Nat) : d.markTo a a = d := by
  obtain ⟨B, S, F⟩ := d
  simp only [Dev.markTo]
  congr 1
  funext j; rw [decide_eq_false (by omega)]; simp
theorem Dev.markTo_step (d : Dev) {a K : Nat} (h : a ≤ K) : (d.markTo a K).mark K = d.markTo a (K + 1) := by
  obtain ⟨B, S, F⟩ := d
  simp only [Dev.markTo, Dev.mark]
  congr 1
  funext j
  by_cases hj : j = K
  · subst hj
    rw [decide_eq_false (show ¬ (a ≤ j ∧ j < j) by omega), decide_eq_true (show a ≤ j ∧ j < j + 1 by omega)]
    simp
  · have : (j == K) = false := by simp [hj]
    rw [this]
    by_cases hjk : a ≤ j ∧ j < K
    · rw [decide_eq_true hjk, decide_eq_true (show a ≤ j ∧ j < K + 1 by omega)]; simp
    · rw [decide_eq_false hjk, decide_eq_false (show ¬ (a ≤ j ∧ j < K + 1) by omega)]; simp
/-- Is some byte of a word among bytes? -/
def hitB (a long j : Nat) : Bool := decide (a / 8 ≤ j ∧ 8 * j < a + long ∧ 0 < long)
def Dev.write (d : Dev) (a : Nat) (l : List Int) : Dev :=
  { B := d.B.take a ++ (l ++ d.B.drop (a + l.length)), S := fun j => if hitB a l.length j then some ((d.S j).getD (word d.B j)) else d.S j, F := fun j => d.F j && !hitB a l.length j }
def Dev.flush (d : Dev) (a long : Nat) : Dev := { d with F := fun j => d.F j || (hitB a long j && (d.S j).isSome) }
theorem hit_each {a long k : Nat} (h1 : 0 < long → a + long ≤ 8 * k) (h2 : ∀ j, a / 8 ≤ j → j < k → 8 * j < a + long ∧ 0 < long) (j : Nat) : decide (a / 8 ≤ j ∧ j < k) = hitB a long j := by
  rw [hitB]
  refine decide_eq_decide.2 ⟨fun h => ⟨h.1, h2 j h.1 h.2⟩, fun h => ⟨h.1, ?_⟩⟩
  have := h1 h.2.2
  omega
theorem touchTo_hit (d : Dev) {a long k : Nat} (h1 : 0 < long → a + long ≤ 8 * k) (h2 : ∀ j, a / 8 ≤ j → j < k → 8 * j < a + long ∧ 0 < long) :
    d.touchTo (a / 8) k = { B := d.B, S := fun j => if hitB a long j then some ((d.S j).getD (word d.B j)) else d.S j, F := fun j => d.F j && !hitB a long j } := by
  simp only [Dev.touchTo]
  congr 1
  · funext j
    rw [← hit_each h1 h2 j]
    by_cases h : a / 8 ≤ j ∧ j < k
    · rw [if_pos h, if_pos (by simp [h])]
    · rw [if_neg h, if_neg (by simp only [decide_eq_true_eq]; exact h)]
  · funext j
    rw [hit_each h1 h2 j]
theorem markTo_hit (d : Dev) {a long k : Nat} (h1 : 0 < long → a + long ≤ 8 * k) (h2 : ∀ j, a / 8 ≤ j → j < k → 8 * j < a + long ∧ 0 < long) : d.markTo (a / 8) k = d.flush a long := by
  simp only [Dev.markTo, Dev.flush]
  congr 1
  funext j
  rw [hit_each h1 h2 j]
theorem splice_length {B l : List Int} {a : Nat} (h : a + l.length ≤ B.length) : (B.take a ++ (l ++ B.drop (a + l.length))).length = B.length := by
  simp only [List.length_append, List.length_take, List.length_drop]
  omega
theorem splice_bys {B l : List Int} {a : Nat} (hB : Bys B) (hl : Bys l) : Bys (B.take a ++ (l ++ B.drop (a + l.length))) := by
  intro x hx
  rcases List.mem_append.1 hx with hx | hx
  · exact hB x (List.mem_of_mem_take hx)
  · rcases List.mem_append.1 hx with hx | hx
    · exact hl x hx
    · exact hB x (List.mem_of_mem_drop hx)
theorem Dev.Ok.setB {d : Dev} (h : d.Ok) {B : List Int} (hl : B.length = d.B.length) (hb : Bys B) : Dev.Ok { d with B := B } :=
  ⟨by rw [show ({ d with B := B } : Dev).B = B from rfl, hl]; exact h.len, by rw [show ({ d with B := B } : Dev).B = B from rfl, hl]; exact h.max, hb, fun k hk => by rw [show ({ d with B := B } : Dev).B = B from rfl, hl]; exact h.dom k hk, h.safe, h.sub⟩
theorem MapsD.own {s f b : Nat} {v : Value} (h : MapsD s f b) : OwnD v s f b := .inr h
theorem ins_ok {n : Nat} {a long : Int} (h : insE n a long = 0) : 0 ≤ long ∧ 0 ≤ a ∧ a + long ≤ n := by
  unfold insE at h
  split at h
  · cases h
  · split at h
    · cases h
    · omega
/-- A cell lies in no map's block. -/
theorem HasD.cell_off {w : World} {p : Nat} {v : Value} {s f : Nat} {d : Dev} (h : HasD w p v s f d) {a : Addr} {u : Value} (hc : w.cell? a = some u) : ¬ MapsD s f a.block := by
  obtain ⟨e1, c1, h1⟩ := h.safe.blk
  obtain ⟨e2, c2, h2⟩ := h.fl.blk
  rintro (e | e)
  · simp [World.cell?, e, h1] at hc
  · simp [World.cell?, e, h2] at hc
theorem reads_fr {S : Nat → Prop} {w w1 : World} {A : Option Addr} {n : Nat} {l : List Int} (hr : ReadsInt w .u8 A n l) (hf : Fr S w w1) (hs : ∀ a u, w.cell? a = some u → ¬ S a.block) : ReadsInt w1 .u8 A n l :=
  ⟨hr.1, hr.2.1, fun h0 => by
    obtain ⟨ad, e, hx⟩ := hr.2.2 h0
    exact ⟨ad, e, fun j hj => hf.cell (hx j hj) (hs _ _ (hx j hj))⟩⟩
theorem write_bad (w : World) (p : Nat) (v : Value) (s f : Nat) (d : Dev) (a : Int) (A : Option Addr) (n c : Nat) (h : HasD w p v s f d) (hn : n ≤ 9223372036854775807) (he : insE d.B.length a n ≠ 0) :
    Calls Try.prog 23 #[.pointer (some ⟨p, 0, none⟩), .int .i64 a, .slice A n c] w fun e w' => e = .returned (.int .i64 (insE d.B.length a n)) ∧ Below w.heap.size w w' := by
  have HH := Aside0.mk h
  obtain ⟨er, her⟩ : ∃ er, er = insE d.B.length a n := ⟨_, rfl⟩
  have HE := Aside0.mk her.symm
  have hne : (er != 0) = true := by rw [her]; simpa using he
  clear h he her
  go_enter Try.func23, Try.ntmps23
  go_wp2_with (go_at_call 62; (with_reducible refine (ins_calls _ p v s f d a n (HH.out.move (below_alloc (Below.refl _ _) _))).mono ?_); rw [HE.out]; rintro e w2 ⟨rfl, rfl⟩)
  go_ret
  rw [HE.out]
  exact ⟨rfl, below_alloc (Below.refl _ _) _⟩
/-- The words of which some byte is written. -/
def Dev.hitW (d : Dev) (a n : Nat) : Dev := { B := d.B, S := fun j => if hitB a n j then some ((d.S j).getD (word d.B j)) else d.S j, F := fun j => d.F j && !hitB a n j }
theorem each_touch (w : World) (p q : Nat) (v : Value) (s f : Nat) (d : Dev) (a n : Nat) (h : HasD w p v s f d) (hq : w.cell? ⟨q, 0, none⟩ = some (.pointer (some ⟨p, 0, none⟩))) (hqo : ¬ OwnD v s f q) (hin : a + n ≤ d.B.length) :
    Calls Try.prog 63 #[.int .i64 a, .int .i64 n, .func (.func 64) #[] #[.pointer (some ⟨q, 0, none⟩)]] w fun e w' => e = .returned (.tuple #[]) ∧ HasD w' p v s f (d.hitW a n) ∧ Fr (MapsD s f) w w' := by
  have hm := h.ok.max
  have hl8 := h.ok.len
  refine (each_write q a n (fun K W => HasD W p v s f (d.touchTo (a / 8) K) ∧ W.cell? ⟨q, 0, none⟩ = some (.pointer (some ⟨p, 0, none⟩)) ∧ Fr (MapsD s f) w W) w (by omega) ⟨by rw [Dev.touchTo_start]; exact h, hq, Fr.refl _ _⟩ ?_).mono ?_
  · intro k W h1 h2 h3 hI
    refine (w1_calls p q v s f (d.touchTo (a / 8) k) k W hI.1 hI.2.1 hqo (show 8 * k + 8 ≤ d.B.length by omega)).mono fun e W' hW => ⟨hW.1, by rw [← Dev.touchTo_step d h1]; exact hW.2.1, hW.2.2.cell hI.2.1 (fun e => hqo (.inr e)), hI.2.2.trans' hW.2.2⟩
  · rintro e w2 ⟨rfl, K, hK1, hK2, hK3, hS2, hq2, hf2⟩
    rw [touchTo_hit d hK2 hK3] at hS2
    exact ⟨rfl, hS2, hf2⟩
theorem each_mark (w : World) (p q : Nat) (v : Value) (s f : Nat) (d : Dev) (a n : Nat) (h : HasD w p v s f d) (hq : w.cell? ⟨q, 0, none⟩ = some (.pointer (some ⟨p, 0, none⟩))) (hqo : ¬ OwnD v s f q) (hin : a + n ≤ d.B.length) :
    Calls Try.prog 63 #[.int .i64 a, .int .i64 n, .func (.func 66) #[] #[.pointer (some ⟨q, 0, none⟩)]] w fun e w' => e = .returned (.tuple #[]) ∧ HasD w' p v s f (d.flush a n) ∧ Fr (MapsD s f) w w' := by
  have hm := h.ok.max
  have hl8 := h.ok.len
  refine (each_flush q a n (fun K W => HasD W p v s f (d.markTo (a / 8) K) ∧ W.cell? ⟨q, 0, none⟩ = some (.pointer (some ⟨p, 0, none⟩)) ∧ Fr (MapsD s f) w W) w (by omega) ⟨by rw [Dev.markTo_start]; exact h, hq, Fr.refl _ _⟩ ?_).mono ?_
  · intro k W h1 h2 h3 hI
    refine (f1_calls p q v s f (d.markTo (a / 8) k) k W hI.1 hI.2.1 (show 8 * k + 8 ≤ d.B.length by omega)).mono fun e W' hW => ⟨hW.1, by rw [← Dev.markTo_step d h1]; exact hW.2.1, hW.2.2.cell hI.2.1 (fun e => hqo (.inr e)), hI.2.2.trans' hW.2.2⟩
  · rintro e w2 ⟨rfl, K, hK1, hK2, hK3, hS2, hq2, hf2⟩
    rw [markTo_hit d hK2 hK3] at hS2
    exact ⟨rfl, hS2, hf2⟩
theorem not_own {w : World} {p : Nat} {v : Value} {s f : Nat} {d : Dev} (h : HasD w p v s f d) {b : Nat} (hb : w.heap.size ≤ b) : ¬ OwnD v s f b := fun e => absurd (h.own_lt e) (Nat.not_lt.2 hb)
set_option maxRecDepth 100000 in
theorem write_good (w : World) (p : Nat) (v : Value) (s f : Nat) (d : Dev) (a : Nat) (A : Option Addr) (n c : Nat) (l : List Int) (hn : l.length = n) (h : HasD w p v s f d) (hr : ReadsInt w .u8 A n l) (hb : Bys l) (he : insE d.B.length a n = 0) :
    Calls Try.prog 23 #[.pointer (some ⟨p, 0, none⟩), .int .i64 a, .slice A n c] w fun e w' => e = .returned (.int .i64 0) ∧ HasD w' p v s f (d.write a l) ∧ Fr (OwnD v s f) w w' := by
  have HH := Aside0.mk h
  have HE := Aside0.mk he
  have HN := Aside0.mk hn
  obtain ⟨_, _, hin⟩ := ins_ok he
  have hm := h.ok.max
  obtain ⟨B0, c0, hv, hc0, hr0⟩ := h.reads
  subst hv
  have HSw := Aside0.mk (h.move (below_alloc (Below.refl _ _) (.cells #[.pointer (some ⟨p, 0, none⟩)] 27)))
  have HQ := Aside0.mk (show (w.alloc (.cells #[.pointer (some ⟨p, 0, none⟩)] 27)).cell? ⟨w.heap.size, 0, none⟩ = some (.pointer (some ⟨p, 0, none⟩)) from blk_cell (heap_alloc_new _ _) (i := 0) rfl)
  have HR := Aside0.mk hr
  have HBY := Aside0.mk hb
  by_cases h0 : 0 < n
  · obtain ⟨g, cap, hvg, hg1, hg2, hcap, hcap2⟩ := own_slice_form h.row (by omega)
    simp only [Value.slice.injEq] at hvg
    obtain ⟨rfl, _, rfl⟩ := hvg
    clear h he hr hb hn hr0
    go_enter Try.func23, Try.ntmps23
    go_wp2_with (first | (go_at_call 62; (with_reducible refine (ins_calls _ p _ s f d a n (HH.out.move (below_alloc (Below.refl _ _) _))).mono ?_); rw [HE.out]; rintro e w1 ⟨rfl, rfl⟩) | (go_at_call 63; (with_reducible refine (each_touch _ p w.heap.size _ s f d a n HSw.out HQ.out (not_own HH.out (Nat.le_refl _)) (by omega)).mono ?_); rintro e w2 ⟨rfl, hS2, hf2⟩; have HS2 := Aside0.mk hS2; have HF2 := Aside0.mk hf2; have p0 := blk_cell hS2.ptr (i := 0) rfl; have q2 := hf2.cell HQ.out (fun e => not_own HH.out (Nat.le_refl _) (.inr e)); clear hS2 hf2) | ((with_reducible refine gate_bi (b := .copy) (xs := #[.tmp 26, .tmp 27]) rfl ?_); go_must (refine wpList_copy_at (enc := Value.int .u8) (h1 := fun _ => rfl) (0 : Int) rfl (.tmp 26) (.tmp 27) 23 23 5 rfl Try.underlying23 (by kernel_rfl) g c0 a (some ⟨g, a, none⟩) (d.B.length - a) (c0 - a) d.B l A n c 0 (fun k => k ≠ p) rfl rfl (show Kd.R (Kd.int .u8) 5 w2 0 (fun k => k ≠ p) (.slice (some ⟨g, 0, none⟩) d.B.length c0) d.B from HS2.out.row) (Kd.C_of_reads (d := (0 : Int)) (h1 := fun _ => rfl) (reads_fr (HR.out.below (below_alloc (Below.refl _ _) _)) HF2.out (fun x u hx => HSw.out.cell_off hx))) (by omega) (by omega) (fun _ => rfl) ?_); intro w3 hr3 hg3))
    go_ret
    have hfr : Fr (OwnD (.slice (some ⟨g, 0, none⟩) d.B.length c0) s f) w2 w3 := (Fr.refl _ _).grown hg3 (fun k hk => .inl (.inl hk.symm))
    refine ⟨rfl, ?_, (((Fr.refl _ _).alloc _).trans' (HF2.out.mono (fun b hb => hb.own))).trans' hfr⟩
    have hS := HS2.out
    have hne : ∀ b, b ≠ g → b < w2.heap.size → w3.heap[b]? = w2.heap[b]? := fun b hb hl => hg3.block b hl (fun e => hb (Option.some.inj e))
    have hgs := hS.v_ne (b := g) rfl
    have hln : (d.B.take a ++ (l ++ d.B.drop (a + n))).length = d.B.length := by rw [← HN.out]; exact splice_length (by rw [HN.out]; omega)
    have e : d.write a l = { d.hitW a n with B := d.B.take a ++ (l ++ d.B.drop (a + n)) } := by rw [Dev.write, Dev.hitW, HN.out]
    rw [e]
    exact ⟨(hne p (fun e => hg2 e.symm) hS.p_lt).trans hS.ptr, hr3, hS.safe.same (hne s hgs.1.symm hS.safe.lt), hS.fl.same (hne f hgs.2.symm hS.fl.lt), hS.ne, hS.ok.setB hln (by rw [← HN.out]; exact splice_bys HH.out.ok.bys HBY.out)⟩
  · obtain ⟨D, hdr, hdq⟩ := drop_run B0 c0 d.B a (by omega) hc0
    have HN0 := Aside0.mk (show n = 0 by omega)
    clear h he hr0 hr hb hn h0 hdq
    go_enter Try.func23, Try.ntmps23
    go_wp2_with (first | (go_at_call 62; (with_reducible refine (ins_calls _ p _ s f d a n (HH.out.move (below_alloc (Below.refl _ _) _))).mono ?_); rw [HE.out]; rintro e w1 ⟨rfl, rfl⟩) | (go_at_call 63; (with_reducible refine (each_touch _ p w.heap.size _ s f d a n HSw.out HQ.out (not_own HH.out (Nat.le_refl _)) (by omega)).mono ?_); rintro e w2 ⟨rfl, hS2, hf2⟩; have HS2 := Aside0.mk hS2; have HF2 := Aside0.mk hf2; have p0 := blk_cell hS2.ptr (i := 0) rfl; have q2 := hf2.cell HQ.out (fun e => not_own HH.out (Nat.le_refl _) (.inr e)); clear hS2 hf2) | ((with_reducible refine gate_bi (b := .copy) (xs := #[.tmp 26, .tmp 27]) rfl ?_); refine wpList_copy_nothing rfl (.tmp 26) (.tmp 27) 23 23 rfl 5 Try.underlying23 (by kernel_rfl) D A (d.B.length - a) (c0 - a) n c rfl rfl (by rw [HN0.out]; exact Nat.zero_min _) ?_))
    go_ret
    obtain rfl : n = 0 := HN0.out
    obtain rfl : l = [] := List.eq_nil_of_length_eq_zero HN.out
    refine ⟨rfl, ?_, ((Fr.refl _ _).alloc _).trans' (HF2.out.mono (fun b hb => hb.own))⟩
    have e : d.write a [] = d.hitW a 0 := by
      simp only [Dev.write, Dev.hitW, List.length_nil, List.nil_append, Nat.add_zero, List.take_append_drop]
    rw [e]
    exact HS2.out
theorem flush_calls (w : World) (p : Nat) (v : Value) (s f : Nat) (d : Dev) (a n : Nat) (h : HasD w p v s f d) (he : insE d.B.length a n = 0) :
    Calls Try.prog 25 #[.pointer (some ⟨p, 0, none⟩), .int .i64 a, .int .i64 n] w fun e w' => e = .returned (.int .i64 0) ∧ HasD w' p v s f (d.flush a n) ∧ Fr (OwnD v s f) w w' := by
  have HH := Aside0.mk h
  have HE := Aside0.mk he
  obtain ⟨_, _, hin⟩ := ins_ok he
  have hm := h.ok.max
  have HSw := Aside0.mk (h.move (below_alloc (Below.refl _ _) (.cells #[.pointer (some ⟨p, 0, none⟩)] 27)))
  have HQ := Aside0.mk (show (w.alloc (.cells #[.pointer (some ⟨p, 0, none⟩)] 27)).cell? ⟨w.heap.size, 0, none⟩ = some (.pointer (some ⟨p, 0, none⟩)) from blk_cell (heap_alloc_new _ _) (i := 0) rfl)
  clear h he
  go_enter Try.func25, Try.ntmps25
  go_wp2_with (first | (go_at_call 62; (with_reducible refine (ins_calls _ p _ s f d a n (HH.out.move (below_alloc (Below.refl _ _) _))).mono ?_); rw [HE.out]; rintro e w1 ⟨rfl, rfl⟩) | (go_at_call 63; (with_reducible refine (each_mark _ p w.heap.size _ s f d a n HSw.out HQ.out (not_own HH.out (Nat.le_refl _)) (by omega)).mono ?_); rintro e w2 ⟨rfl, hS2, hf2⟩; have HS2 := Aside0.mk hS2; have HF2 := Aside0.mk hf2; clear hS2 hf2))
  go_ret
  exact ⟨rfl, HS2.out, ((Fr.refl _ _).alloc _).trans' (HF2.out.mono (fun b hb => hb.own))⟩
theorem flush_bad (w : World) (p : Nat) (v : Value) (s f : Nat) (d : Dev) (a n : Int) (h : HasD w p v s f d) (he : insE d.B.length a n ≠ 0) :
    Calls Try.prog 25 #[.pointer (some ⟨p, 0, none⟩), .int .i64 a, .int .i64 n] w fun e w' => e = .returned (.int .i64 (insE d.B.length a n)) ∧ Below w.heap.size w w' := by
  have HH := Aside0.mk h
  obtain ⟨er, her⟩ : ∃ er, er = insE d.B.length a n := ⟨_, rfl⟩
  have HE := Aside0.mk her.symm
  have hne : (er != 0) = true := by rw [her]; simpa using he
  clear h he her
  go_enter Try.func25, Try.ntmps25
  go_wp2_with (go_at_call 62; (with_reducible refine (ins_calls _ p _ s f d a n (HH.out.move (below_alloc (Below.refl _ _) _))).mono ?_); rw [HE.out]; rintro e w1 ⟨rfl, rfl⟩)
  go_ret
  rw [HE.out]
  exact ⟨rfl, below_alloc (Below.refl _ _) _⟩
theorem mid_run (A : Option Addr) (c : Nat) (xs : List Int) (a n : Nat) (hj : a + n ≤ xs.length) (hc : xs.length ≤ c) : ∃ A' : Option Addr, (∀ W : World, (Instr.slice 23 (.slice A xs.length c) (some (.int .i64 (a : Int))) (some (.int .i64 ((a : Int) + n))) none).run Try.prog W = .ok (.slice A' n (c - a)) W) ∧
    (∀ w : World, ReadsInt w .u8 A xs.length xs → ReadsInt w .u8 A' n (cut xs a n)) ∧ n ≤ c - a := by
  obtain ⟨i, hi, hz⟩ := info_of
  obtain ⟨A', h1, h2, h3⟩ := print_mid_int (P := Try.prog) (k := .u8) 23 5 Try.underlying23 hi hz A c xs (a : Int) ((a : Int) + n) (by omega) (by omega) (by omega) hc
  have e1 : ((xs.take ((a : Int) + n).toNat).drop (a : Int).toNat) = cut xs a n := by
    rw [show ((a : Int) + n).toNat = a + n by omega, Int.toNat_natCast, cut, ← List.take_drop]
  have e2 : (cut xs a n).length = n := cut_length hj
  rw [e1, e2] at h1 h2 h3
  exact ⟨A', h1, h2, by omega⟩
theorem read_bad (w : World) (p : Nat) (v : Value) (s f : Nat) (d : Dev) (a n : Int) (h : HasD w p v s f d) (he : insE d.B.length a n ≠ 0) :
    Calls Try.prog 31 #[.pointer (some ⟨p, 0, none⟩), .int .i64 a, .int .i64 n] w fun e w' => e = .returned (.tuple #[.slice none 0 0, .int .i64 (insE d.B.length a n)]) ∧ Below w.heap.size w w' := by
  have HH := Aside0.mk h
  obtain ⟨er, her⟩ : ∃ er, er = insE d.B.length a n := ⟨_, rfl⟩
  have HE := Aside0.mk her.symm
  have hne : (er != 0) = true := by rw [her]; simpa using he
  clear h he her
  go_enter Try.func31, Try.ntmps31
  go_wp2_with (go_at_call 62; (with_reducible refine (ins_calls _ p v s f d a n HH.out).mono ?_); rw [HE.out]; rintro e w2 ⟨rfl, rfl⟩)
  go_ret2
  rw [HE.out]
  exact ⟨rfl, Below.refl _ _⟩
theorem read_good (w : World) (p : Nat) (v : Value) (s f : Nat) (d : Dev) (a n : Nat) (h : HasD w p v s f d) (he : insE d.B.length a n = 0) :
    Calls Try.prog 31 #[.pointer (some ⟨p, 0, none⟩), .int .i64 a, .int .i64 n] w fun e w' => ∃ u : Value, e = .returned (.tuple #[u, .int .i64 0]) ∧ Kd.R (Kd.int .u8) 5 w' w.heap.size (fun _ => True) u (cut d.B a n) ∧ Below w.heap.size w w' := by
  have HH := Aside0.mk h
  have HE := Aside0.mk he
  obtain ⟨_, _, hin⟩ := ins_ok he
  have hm := h.ok.max
  obtain ⟨B0, c0, hv, hc0, hr0⟩ := h.reads
  subst hv
  have p0 := blk_cell h.ptr (i := 0) rfl
  have HR := Aside0.mk hr0
  obtain ⟨D, hdr, hdq, hdc⟩ := mid_run B0 c0 d.B a n (by omega) hc0
  have HC := Aside0.mk (show ReadsInt w .u8 D (cut d.B a n).length (cut d.B a n) by rw [cut_length (by omega)]; exact hdq w hr0)
  have HL := Aside0.mk (show (cut d.B a n).length = n from cut_length (by omega))
  clear h he hr0 hdq
  go_enter Try.func31, Try.ntmps31
  go_wp2_with (first | (go_at_call 62; (with_reducible refine (ins_calls _ p _ s f d a n HH.out).mono ?_); rw [HE.out]; rintro e w2 ⟨rfl, rfl⟩) | (go_at_call 61; have hcl := clone_bytes D (c0 - a) (cut d.B a n) w HC.out (by rw [HL.out]; omega); rw [HL.out] at hcl; (with_reducible refine hcl.mono ?_); rintro e w3 ⟨u, rfl, hu3, hb3⟩; clear hcl))
  go_ret2
  exact ⟨u, rfl, hu3, hb3⟩
end Go.Proofs.Ytbfogcckbhkciaa.Hand
namespace Go.Proofs.Ytbfogcckbhkciaa.Hand
open Go.RowKit Go.Maps Go.Proofs.YtbfogcckbhkciaaW.PrintWords
set_option linter.unusedVariables false

def Dev.fence (d : Dev) : Dev := { B := d.B, S := fun j => if d.F j then none else d.S j, F := fun _ => false }
theorem Dev.Ok.fence {d : Dev} (h : d.Ok) : d.fence.Ok := by
  refine ⟨h.len, h.max, h.bys, fun j hj => ?_, fun j c hj => ?_, fun j hj => by cases hj⟩
  · refine h.dom j ?_
    simp only [Dev.fence] at hj
    split at hj
    · cases hj
    · exact hj
  · refine h.safe j c ?_
    simp only [Dev.fence] at hj
    split at hj
    · cases hj
    · exact hj
/-- What is safe where so many keys are still to come. -/
def fenS (d : Dev) (left : Lit → Bool) : Nat → Option (List Int) := fun j => if d.F j && !left (.int .i64 j) then none else d.S j
theorem fenS_start {d : Dev} {D : DataW Value} (h : Fits D (flF d.F)) : fenS d (has D) = d.S := by
  funext j
  rw [fenS, (h _).1, flF_nat]
  cases d.F j <;> simp
theorem fenS_end {d : Dev} {left : Lit → Bool} (h : ∀ kl, left kl = false) : fenS d left = d.fence.S := by
  funext j
  rw [fenS, h]
  simp [Dev.fence]
theorem fenS_step {d : Dev} {left : Lit → Bool} {k : Nat} (hk : d.F k = true) (x : Lit) : delF (safeF (fenS d left)) (.int .i64 k) x = safeF (fenS d (fun z => left z && !z.sameKey (.int .i64 k))) x := by
  by_cases hx : x = .int .i64 k
  · subst hx
    rw [delF, if_pos (sameKey_int _ _), safeF_nat]
    simp [fenS, hk, sameKey_int]
  · rw [delF, if_neg (by rw [sameKey_ne hx]; simp)]
    unfold safeF
    split
    · rename_i a
      split
      · rename_i ha
        have : (Lit.int .i64 a).sameKey (.int .i64 k) = false := sameKey_ne hx
        rw [fenS, fenS, Int.toNat_of_nonneg ha, this]
        simp
      · rfl
    · rfl
theorem held_inv {v : Value} {y : DataW Value × List MemPlace} (h : heldR v = some y) : y.1 = .held v := by
  simp only [heldR, Option.some.injEq] at h
  rw [← h]
/-- A key of the flushed words. -/
theorem fl_key {d : Dev} {D : DataW Value} (h : Fits D (flF d.F)) {kl : Lit} {v : Value} (hat : ∀ zd, D.atKey kl zd = .held v) : ∃ k : Nat, kl = .int .i64 k ∧ d.F k = true := by
  have := has_true_of_atKey hat
  rw [(h kl).1] at this
  exact flF_some this
theorem safe_key {S : Nat → Option (List Int)} {D : DataW Value} (h : Fits D (safeF S)) {kl : Lit} {v : Value} (hat : ∀ zd, D.atKey kl zd = .held v) : ∃ (k : Nat) (c : List Int), kl = .int .i64 k ∧ S k = some c ∧ v = cellV c := by
  have h1 := has_true_of_atKey hat
  rw [(h kl).1] at h1
  obtain ⟨k, rfl, hs⟩ := safeF_some h1
  obtain ⟨c, hc⟩ := Option.isSome_iff_exists.1 hs
  refine ⟨k, c, rfl, hc, ?_⟩
  have h2 := (h _).2 (cellV c) (getD_some8 hc) .nil
  rw [hat] at h2
  injection h2
set_option maxRecDepth 100000 in
theorem fence_calls (w : World) (p : Nat) (v : Value) (s f : Nat) (d : Dev) (h : HasD w p v s f d) :
    Calls Try.prog 24 #[.pointer (some ⟨p, 0, none⟩)] w fun e w' => e = .returned (.tuple #[]) ∧ HasD w' p v s f d.fence ∧ Fr (OwnD v s f) w w' := by
  have HH := Aside0.mk h
  have c2 := blk_cell h.ptr (i := 2) rfl
  obtain ⟨D, hD, hfit⟩ := h.fl
  have HD := Aside0.mk hD
  have HFIT := Aside0.mk hfit
  clear h hD hfit
  go_enter Try.func24, Try.ntmps24
  go_wp2_with (at_range; refine wpList_range_own _ rfl _ _ rfl 3 3 law_int Try.underlying111 heldR f _ D rfl HD.out ?_; intro w0 hrg0 hg0 hs0)
  go_frame
  have HRG0 := Aside0.mk hrg0
  have HG0 := Aside0.mk hg0
  have HS0 := Aside0.mk hs0
  have hfr0 : Fr (MapsD s f) w w0 := (Fr.refl _ _).grown hg0 (fun k hk => by cases hk)
  have HFR0 := Aside0.mk hfr0
  have HM0 := Aside0.mk (show MapF Try.prog 3 w0 s (safeF (fenS d (has D))) by rw [fenS_start HFIT.out]; exact HH.out.safe.kept hg0 (by simp))
  clear hrg0 hg0 hs0 hfr0 c2
  go_loopw [2] (fun _ wr => ∃ left cnt, Aside0 (wr.ranges Try.prog 3 heldR f w.heap.size (Maps.size D) D left cnt) ∧ Aside0 (MapF Try.prog 3 wr s (safeF (fenS d left))) ∧ Aside0 (Fr (fun b => b = s ∨ b = w.heap.size) w wr)) (fun _ wr => wr.rangeLeft f w.heap.size)
  case atStart => exact ⟨has D, Maps.size D, HRG0, HM0, ⟨(Fr.refl _ _).grown HG0.out (fun k hk => by cases hk)⟩⟩
  case round =>
    obtain ⟨left, cnt, HRG, HM, HFR⟩ := hrel
    have c1 := HFR.out.cell (blk_cell HH.out.ptr (i := 1) rfl) (fun e => by rcases e with e | e; exact HH.out.p_own (.inr (.inl e)); exact absurd HH.out.p_lt (by rw [show p = w.heap.size from e]; exact Nat.lt_irrefl _))
    have c2 := HFR.out.cell (blk_cell HH.out.ptr (i := 2) rfl) (fun e => by rcases e with e | e; exact HH.out.p_own (.inr (.inl e)); exact absurd HH.out.p_lt (by rw [show p = w.heap.size from e]; exact Nat.lt_irrefl _))
    go_wp2_with (at_next; refine wpList_next_ranges _ rfl _ rfl 3 law_int heldR (Value.int .i64) (fun (x : Value) => x) (fun key kl hkey => by obtain ⟨x, rfl, _⟩ := Maps.keyOf_int_inv Try.underlying3 hkey; exact ⟨x, rfl⟩) (fun u y hu => ⟨u, rfl⟩) f w.heap.size _ D left cnt rfl HRG.out ?_ ?_)
    · intro _ hl0
      have HE := Aside0.mk (fenS_end (d := d) hl0)
      clear hl0
      have HMF := Aside0.mk (MapF.of_own HRG.out.owns HFIT.out)
      go_wp2_with ((with_reducible refine gate_bi (b := .clear) (xs := #[.tmp 20]) rfl ?_); refine wpList_clear rfl (.tmp 20) 111 rfl Try.underlying111 rfl HMF.out ?_; intro w2 hm2 ht2)
      go_end0
      have hS := HH.out
      have hf2 : Fr (fun b => b = f) wr w2 := ht2.fr rfl
      have hfr : Fr (fun b => (b = s ∨ b = w.heap.size) ∨ b = f) w w2 := (HFR.out.mono (fun b hb => .inl hb)).trans' (hf2.mono (fun b hb => .inr hb))
      have hne : ∀ b, b ≠ s → b ≠ f → b < w.heap.size → w2.heap[b]? = w.heap[b]? := fun b h1 h2 hl => hfr.block b hl (fun e => by rcases e with (e | e) | e; exact h1 e; omega; exact h2 e)
      refine ⟨rfl, ⟨(hne p (fun e => hS.p_own (.inr (.inl e))) (fun e => hS.p_own (.inr (.inr e))) hS.p_lt).trans hS.ptr, R_at hS.row (fun b hb => hne b (hS.v_ne hb).1 (hS.v_ne hb).2 (hS.own_lt (.inl hb))), ?_, hm2.congr (fun kl => ?_), hS.ne, hS.ok.fence⟩, ?_⟩
      · rw [← HE.out]
        exact HM.out.fr hf2 hS.ne
      · unfold flF
        split
        · simp [Dev.fence]
        · rfl
      · refine ⟨hfr.os, hfr.tape, hfr.output, hfr.size, fun b hb hn => hne b (fun e => hn (.inr (.inl e))) (fun e => hn (.inr (.inr e))) hb⟩
    · intro x c kl yd yp w1 cnt1 hkey hlk hv hat hrg1 hlt hg1 hs1 hen
      obtain ⟨k, hkl, hF⟩ := fl_key HFIT.out (v := c) (fun zd => (hat zd).trans (held_inv (y := (yd, yp)) hv))
      subst hkl
      obtain ⟨x', ex, ekl, _⟩ := Maps.keyOf_int_inv Try.underlying3 hkey
      simp only [Value.int.injEq, true_and] at ex
      subst ex
      simp only [Lit.int.injEq, true_and] at ekl
      subst ekl
      have HF := Aside0.mk hF
      have HRG1 := Aside0.mk hrg1
      have HKY := Aside0.mk hkey
      have HLT := Aside0.mk hlt
      have HG1 := Aside0.mk hg1
      have hne2 : w.heap.size ≠ s := fun e => absurd HH.out.safe.lt (by rw [← e]; exact Nat.lt_irrefl _)
      have HM1 := Aside0.mk (HM.out.kept hg1 (fun e => hne2 (by injection e with e; exact e.symm)))
      have e1 := (Fr.grown (S := fun b => b = w.heap.size) (Fr.refl _ wr) hg1 (fun k hk => .inl (by injection hk with hk; exact hk.symm))).cell c1 (fun e => absurd HH.out.p_lt (by rw [show p = w.heap.size from e]; exact Nat.lt_irrefl _))
      clear hrg1 hkey hlk hv hat hlt hg1 hs1 hF hne2
      go_wp2_with (at_delete; refine wpList_del rfl (.tmp 15) (.tmp 16) 110 rfl law_int Try.underlying110 rfl HM1.out (.int .i64 k) (.int .i64 k) rfl HKY.out ?_; intro w2 hm2 ht2; go_frame)
      have hg2 := ht2.grown
      have hrg2 : w2.ranges Try.prog 3 heldR f w.heap.size (Maps.size D) D (fun z => left z && !z.sameKey (.int .i64 k)) cnt1 := HRG1.out.kept hg2 (fun e => HH.out.ne (by injection e with e; exact e.symm)) (fun e => absurd HH.out.safe.lt (by injection e with e; rw [← e]; exact Nat.lt_irrefl _))
      refine ⟨⟨_, cnt1, ⟨hrg2⟩, ⟨hm2.congr (fun x => fenS_step HF.out x)⟩, ⟨?_⟩⟩, ?_⟩
      · exact (HFR.out.grown HG1.out (fun j hj => .inl (.inr (by injection hj with hj; exact hj.symm)))).trans' (ht2.fr (.inl rfl))
      · rw [hrg2.left_eq, HRG.out.left_eq]
        exact HLT.out
end Go.Proofs.Ytbfogcckbhkciaa.Hand
namespace Go.Proofs.Ytbfogcckbhkciaa.Hand
open Go.RowKit Go.Maps Go.Proofs.YtbfogcckbhkciaaW.PrintWords
set_option linter.unusedVariables false

/-- The first place of a number in a row; -1: none. -/
def idxM (l : List Int) (k : Int) : Int := match l.findIdx? (· == k) with | some i => (i : Int) | none => -1
theorem idxM_neg {l : List Int} {k : Int} : decide (0 ≤ idxM l k) = decide (k ∈ l) := by
  refine decide_eq_decide.2 ?_
  unfold idxM
  cases h : l.findIdx? (· == k) with
  | some i =>
    obtain ⟨h1, h2, _⟩ := List.findIdx?_eq_some_iff_getElem.1 h
    have h3 : l[i] = k := by simpa using h2
    exact ⟨fun _ => by rw [← h3]; exact List.getElem_mem _, fun _ => by simp⟩
  | none =>
    have := List.findIdx?_eq_none_iff.1 h
    exact ⟨fun h => absurd h (by simp), fun hk => absurd (this k hk) (by simp)⟩
theorem idx_calls (w : World) (A : Option Addr) (c : Nat) (l : List Int) (k : Int) (hr : ReadsInt w .i64 A l.length l) :
    Calls Try.prog 113 #[.slice A l.length c, .int .i64 k] w fun e w' => e = .returned (.int .i64 (idxM l k)) ∧ Below w.heap.size w w' := by
  have HR := Aside0.mk hr
  have hl := hr.2.1
  clear hr
  go_enter Try.func113, Try.ntmps113
  go_wp2
  go_loop [8] (fun i => ∃ j : Nat, j ≤ l.length ∧ i = .int .i64 j ∧ Aside0 (∀ m (hm : m < l.length), m < j → l[m] ≠ k)) (fun i => (l.length - intOf i).toNat)
  case atStart => exact ⟨0, Nat.zero_le _, rfl, ⟨fun m _ h => absurd h (Nat.not_lt_zero _)⟩⟩
  case round =>
    obtain ⟨j, hj, rfl, HN⟩ := hrel
    by_cases hlt : j < l.length
    · obtain ⟨ad, rfl, hx⟩ := HR.out.2.2 (by omega)
      have x0 := hx j hlt
      have HRD := Aside0.mk (show l.getD j 0 = l[j] by rw [List.getD_eq_getElem?_getD, List.getElem?_eq_getElem hlt]; rfl)
      clear hx
      generalize l.getD j 0 = y at x0 HRD
      by_cases he : k = y
      · have he1 : (k == y) = true := by simp [he]
        have HI := Aside0.mk (show idxM l k = j by
          have : l.findIdx? (· == k) = some j := List.findIdx?_eq_some_iff_getElem.2 ⟨hlt, by rw [← HRD.out, he]; simp, fun m hm => by simpa using HN.out m (by omega) hm⟩
          rw [idxM, this])
        clear he
        go_wp2
        go_ret
        rw [HI.out]
        exact ⟨rfl, Below.refl _ _⟩
      · have he1 : (k == y) = false := by simp [he]
        have HN1 := Aside0.mk (show ∀ m (hm : m < l.length), m < j + 1 → l[m] ≠ k from fun m hm h1 => by
          by_cases h2 : m = j
          · subst h2; rw [← HRD.out]; exact fun e => he e.symm
          · exact HN.out m hm (by omega))
        clear he
        go_wp2
        go_round
        case rel => exact ⟨j + 1, by omega, by go_num, HN1⟩
        case measure => simp [intOf]; omega
    · obtain rfl : j = l.length := by omega
      have HI := Aside0.mk (show idxM l k = -1 by
        have : l.findIdx? (· == k) = none := List.findIdx?_eq_none_iff.2 (fun x hx => by
          obtain ⟨m, hm, rfl⟩ := List.getElem_of_mem hx
          simpa using HN.out m hm hm)
        rw [idxM, this])
      go_wp2
      go_ret
      rw [HI.out]
      exact ⟨rfl, Below.refl _ _⟩
theorem contains_calls (w : World) (A : Option Addr) (c : Nat) (l : List Int) (k : Int) (hr : ReadsInt w .i64 A l.length l) :
    Calls Try.prog 73 #[.slice A l.length c, .int .i64 k] w fun e w' => e = .returned (.bool (decide (k ∈ l))) ∧ Below w.heap.size w w' := by
  have HR := Aside0.mk hr
  have HE := Aside0.mk (idxM_neg (l := l) (k := k))
  obtain ⟨x, hx⟩ : ∃ x, x = idxM l k := ⟨_, rfl⟩
  have HX := Aside0.mk hx.symm
  clear hr hx
  go_enter Try.func73, Try.ntmps73
  go_wp2_with (go_at_call 113; (with_reducible refine (idx_calls _ A c l k HR.out).mono ?_); rw [HX.out]; rintro e w2 ⟨rfl, hb2⟩)
  go_ret
  rw [← HE.out, HX.out]
  exact ⟨rfl, hb2⟩
/-- 'lost' of Crash. -/
theorem lost_calls (w : World) (q : Nat) (A : Option Addr) (c : Nat) (l : List Int) (k : Int) (hq : w.cell? ⟨q, 0, none⟩ = some (.slice A l.length c)) (hr : ReadsInt w .i64 A l.length l) :
    Calls Try.prog 72 #[.int .i64 k, .pointer (some ⟨q, 0, none⟩)] w fun e w' => e = .returned (.bool (!decide (k ∈ l))) ∧ Below w.heap.size w w' := by
  have HR := Aside0.mk hr
  obtain ⟨x, hx⟩ : ∃ x, x = decide (k ∈ l) := ⟨_, rfl⟩
  have HX := Aside0.mk hx.symm
  clear hr hx
  go_enter Try.func72, Try.ntmps72
  go_wp2_with (go_at_call 73; (with_reducible refine (contains_calls _ A c l k HR.out).mono ?_); rw [HX.out]; rintro e w2 ⟨rfl, hb2⟩)
  go_ret
  rw [HX.out]
  exact ⟨rfl, hb2⟩
/-- So many words, one behind the other. -/
def mapW (g : Nat → List Int) : Nat → Nat → List Int
  | _, 0 => []
  | a, m + 1 => g a ++ mapW g (a + 1) m
theorem mapW_length {g : Nat → List Int} {a m : Nat} (h : ∀ j, a ≤ j → j < a + m → (g j).length = 8) : (mapW g a m).length = 8 * m := by
  induction m generalizing a with
  | zero => rfl
  | succ m ih =>
    rw [mapW, List.length_append, h a (Nat.le_refl _) (by omega), ih (fun j h1 h2 => h j (by omega) (by omega))]
    omega
theorem mapW_add (g : Nat → List Int) (a m n : Nat) : mapW g a (m + n) = mapW g a m ++ mapW g (a + m) n := by
  induction m generalizing a with
  | zero => simp [mapW]
  | succ m ih => rw [Nat.succ_add, mapW, mapW, ih, List.append_assoc, show a + 1 + m = a + (m + 1) by omega]
theorem mapW_congr {g g' : Nat → List Int} {a m : Nat} (h : ∀ j, a ≤ j → j < a + m → g j = g' j) : mapW g a m = mapW g' a m := by
  induction m generalizing a with
  | zero => rfl
  | succ m ih => rw [mapW, mapW, h a (Nat.le_refl _) (by omega), ih (fun j h1 h2 => h j (by omega) (by omega))]
theorem mapW_word {B : List Int} {a m : Nat} (h : 8 * (a + m) ≤ B.length) : mapW (word B) a m = cut B (8 * a) (8 * m) := by
  induction m generalizing a with
  | zero => simp [mapW, cut]
  | succ m ih =>
    rw [mapW, ih (by omega), word, cut, cut, cut, show 8 * (m + 1) = 8 + 8 * m by omega, List.take_add, List.drop_drop, show 8 * (a + 1) = 8 * a + 8 by omega]
theorem mapW_self {B : List Int} (h : B.length % 8 = 0) : mapW (word B) 0 (B.length / 8) = B := by
  rw [mapW_word (by omega), cut, Nat.mul_zero, List.drop_zero, List.take_of_length_le (by omega)]
theorem mapW_split (g : Nat → List Int) {n k : Nat} (hk : k < n) : mapW g 0 n = mapW g 0 k ++ (g k ++ mapW g (k + 1) (n - k - 1)) := by
  conv => lhs; rw [show n = k + (1 + (n - k - 1)) by omega, mapW_add, mapW_add]
  simp [mapW]
theorem mapW_splice {g : Nat → List Int} {n k : Nat} (h : ∀ j, j < n → (g j).length = 8) (hk : k < n) (c : List Int) (hc : c.length = 8) :
    (mapW g 0 n).take (8 * k) ++ (c ++ (mapW g 0 n).drop (8 * k + 8)) = mapW (fun j => if j = k then c else g j) 0 n := by
  have hl : (mapW g 0 k).length = 8 * k := mapW_length (fun j _ h2 => h j (by omega))
  rw [mapW_split g hk, mapW_split (fun j => if j = k then c else g j) hk, if_pos rfl, List.take_left' hl, ← List.drop_drop, List.drop_left' hl, List.drop_left' (h k hk)]
  congr 1
  · exact mapW_congr (fun j _ h2 => by rw [if_neg (by omega)])
  · congr 1
    exact mapW_congr (fun j h1 _ => by rw [if_neg (by omega)])
theorem mapW_bys {g : Nat → List Int} (h : ∀ j, Bys (g j)) (a m : Nat) : Bys (mapW g a m) := by
  induction m generalizing a with
  | zero => intro x hx; cases hx
  | succ m ih =>
    intro x hx
    rcases List.mem_append.1 hx with hx | hx
    · exact h a x hx
    · exact ih _ x hx
theorem word_mapW {g : Nat → List Int} {n k : Nat} (h : ∀ j, j < n → (g j).length = 8) (hk : k < n) : word (mapW g 0 n) k = g k := by
  have hl : (mapW g 0 k).length = 8 * k := mapW_length (fun j _ h2 => h j (by omega))
  rw [word, cut, mapW_split g hk, List.drop_left' hl, List.take_left' (h k hk)]
/-- A word behind a crash. -/
def Dev.lossW (d : Dev) (keep : List Int) (j : Nat) : List Int := match d.S j with | some c => if (j : Int) ∈ keep then word d.B j else c | none => word d.B j
def Dev.crash (d : Dev) (keep : List Int) : Dev := { B := mapW (d.lossW keep) 0 (d.B.length / 8), S := fun _ => none, F := fun _ => false }
theorem Dev.Ok.lossW {d : Dev} (h : d.Ok) (keep : List Int) {j : Nat} (hj : j < d.B.length / 8) : (d.lossW keep j).length = 8 := by
  unfold Dev.lossW
  split
  · rename_i c hc
    split
    · exact word_length (by omega)
    · exact (h.safe j c hc).1
  · exact word_length (by omega)
theorem Dev.Ok.lossW_bys {d : Dev} (h : d.Ok) (keep : List Int) (j : Nat) : Bys (d.lossW keep j) := by
  unfold Dev.lossW
  split
  · rename_i c hc
    split
    · exact word_bys h.bys j
    · exact (h.safe j c hc).2
  · exact word_bys h.bys j
/-- A word where so many keys are still to come. -/
def leftW (d : Dev) (keep : List Int) (left : Lit → Bool) (j : Nat) : List Int := if left (.int .i64 j) then word d.B j else d.lossW keep j
theorem leftW_length {d : Dev} (h : d.Ok) (keep : List Int) (left : Lit → Bool) {j : Nat} (hj : j < d.B.length / 8) : (leftW d keep left j).length = 8 := by
  unfold leftW
  split
  · exact word_length (by omega)
  · exact h.lossW keep hj
def leftB (d : Dev) (keep : List Int) (left : Lit → Bool) : List Int := mapW (leftW d keep left) 0 (d.B.length / 8)
theorem leftB_start {d : Dev} (h : d.Ok) (keep : List Int) {D : DataW Value} (hf : Fits D (safeF d.S)) : leftB d keep (has D) = d.B := by
  rw [leftB]
  conv => rhs; rw [← mapW_self h.len]
  refine mapW_congr (fun j _ _ => ?_)
  unfold leftW
  split
  · rfl
  · rename_i hn
    unfold Dev.lossW
    rw [(hf _).1, safeF_nat] at hn
    split
    · rename_i c hc
      rw [hc] at hn
      exact absurd rfl hn
    · rfl
theorem leftB_end {d : Dev} (keep : List Int) {left : Lit → Bool} (h : ∀ kl, left kl = false) : leftB d keep left = (d.crash keep).B := by
  rw [leftB, Dev.crash]
  exact mapW_congr (fun j _ _ => by rw [leftW, h]; rfl)
theorem leftB_length {d : Dev} (h : d.Ok) (keep : List Int) (left : Lit → Bool) : (leftB d keep left).length = d.B.length := by
  rw [leftB, mapW_length (fun j _ hj => leftW_length h keep left (by omega))]
  have := h.len
  omega
theorem sameKey_nat {j k : Nat} (h : j ≠ k) : (Lit.int .i64 j).sameKey (.int .i64 k) = false := sameKey_ne (fun e => h (by simp only [Lit.int.injEq, true_and] at e; omega))
theorem leftB_lost {d : Dev} (h : d.Ok) (keep : List Int) (left : Lit → Bool) {k : Nat} {c : List Int} (hc : d.S k = some c) (hk : (k : Int) ∉ keep) :
    (leftB d keep left).take (8 * k) ++ (c ++ (leftB d keep left).drop (8 * k + 8)) = leftB d keep (fun z => left z && !z.sameKey (.int .i64 k)) := by
  have hkn : k < d.B.length / 8 := by have := h.dom k (by rw [hc]; rfl); omega
  rw [leftB, mapW_splice (fun j hj => leftW_length h keep left hj) hkn c (h.safe k c hc).1, leftB]
  refine mapW_congr (fun j _ _ => ?_)
  by_cases hj : j = k
  · subst hj
    rw [if_pos rfl, leftW, sameKey_int]
    simp [Dev.lossW, hc, hk]
  · rw [if_neg hj, leftW, leftW, sameKey_nat hj]
    simp
theorem leftB_kept {d : Dev} (h : d.Ok) (keep : List Int) (left : Lit → Bool) {k : Nat} (hk : (k : Int) ∈ keep) : leftB d keep left = leftB d keep (fun z => left z && !z.sameKey (.int .i64 k)) := by
  refine mapW_congr (fun j _ _ => ?_)
  by_cases hj : j = k
  · subst hj
    rw [leftW, leftW, sameKey_int]
    have : d.lossW keep j = word d.B j := by
      unfold Dev.lossW
      split
      · rw [if_pos hk]
      · rfl
    simp [this]
  · rw [leftW, leftW, sameKey_nat hj]
    simp
theorem Dev.Ok.crash {d : Dev} (h : d.Ok) (keep : List Int) : (d.crash keep).Ok := by
  have hl : (d.crash keep).B.length = d.B.length := by
    rw [Dev.crash, mapW_length (fun j _ hj => h.lossW keep (by omega))]
    have := h.len
    omega
  exact ⟨by rw [hl]; exact h.len, by rw [hl]; exact h.max, mapW_bys (fun j => h.lossW_bys keep j) _ _, fun j hj => (by cases hj), fun j c hj => (by cases hj), fun j hj => (by cases hj)⟩
theorem crash_length {d : Dev} (h : d.Ok) (keep : List Int) : (d.crash keep).B.length = d.B.length := by
  rw [Dev.crash, mapW_length (fun j _ hj => h.lossW keep (by omega))]
  have := h.len
  omega
theorem reads_frA {q : IntKind} {S : Nat → Prop} {w w1 : World} {A : Option Addr} {n : Nat} {l : List Int} (hr : ReadsInt w q A n l) (hf : Fr S w w1) (hs : 0 < n → ∀ ad, A = some ad → ¬ S ad.block) : ReadsInt w1 q A n l :=
  ⟨hr.1, hr.2.1, fun h0 => by
    obtain ⟨ad, e, hx⟩ := hr.2.2 h0
    refine ⟨ad, e, fun j hj => hf.cell (hx j hj) ?_⟩
    have : (ad.add j).block = ad.block := by unfold Addr.add; split <;> rfl
    rw [this]
    exact hs h0 ad e⟩
theorem arr_reads {w : World} {b : Nat} {t : TypeId} {y0 y1 y2 y3 y4 y5 y6 y7 : Int} (h : w.heap[b]? = some (.cells #[.int .u8 y0, .int .u8 y1, .int .u8 y2, .int .u8 y3, .int .u8 y4, .int .u8 y5, .int .u8 y6, .int .u8 y7] t (0, 0))) : ReadsInt w .u8 (some ⟨b, 0, none⟩) 8 [y0, y1, y2, y3, y4, y5, y6, y7] :=
  ⟨rfl, by simp, fun _ => ⟨_, rfl, fun j hj => by
    rw [add_plain]
    rcases (show j = 0 ∨ j = 1 ∨ j = 2 ∨ j = 3 ∨ j = 4 ∨ j = 5 ∨ j = 6 ∨ j = 7 by omega) with rfl | rfl | rfl | rfl | rfl | rfl | rfl | rfl <;> exact blk_cell h rfl⟩⟩
theorem grown_of_below {w w1 : World} (h : Below w.heap.size w w1) : w.grownBy w1 none := ⟨h.os, h.tape, h.output, h.size, fun i hi _ => h.block i hi⟩
theorem from_run (g n c m : Nat) (i : Int) (hi : i = m) (hm : m ≤ n) (hc : m < c) (W : World) : (Instr.slice 23 (.slice (some ⟨g, 0, none⟩) n c) (some (.int .i64 i)) none none).run Try.prog W = .ok (.slice (some ⟨g, m, none⟩) (n - m) (c - m)) W := by
  subst hi
  obtain ⟨j, hj, hz⟩ := info_of
  have hel : Try.prog.elem 23 = 5 := by simp [Program.elem, Try.underlying23]
  have hu : Try.prog.underlying 23 = some (.slice (Try.prog.elem 23)) := by rw [hel]; exact Try.underlying23
  rw [run_slice_l W 23 _ n c hu .i64 (m : Int) (Int.natCast_nonneg _) (by omega), hel]
  have : ¬ c = m := by omega
  simp [sizeOf, typeInfo, hj, hz, sliced, Result.andThen, this, Addr.add]
  exact fun h => h.symm
set_option maxRecDepth 100000 in
theorem crash_calls (w : World) (p : Nat) (v : Value) (s f : Nat) (d : Dev) (A : Option Addr) (c : Nat) (keep : List Int) (h : HasD w p v s f d) (hr : ReadsInt w .i64 A keep.length keep) (hA : 0 < keep.length → ∀ ad, A = some ad → ¬ some ad.block = v.ownBlock) :
    Calls Try.prog 30 #[.pointer (some ⟨p, 0, none⟩), .slice A keep.length c] w fun e w' => e = .returned (.tuple #[]) ∧ HasD w' p v s f (d.crash keep) ∧ Fr (OwnD v s f) w w' := by
  have HH := Aside0.mk h
  have d1 := cell_alloc (blk_cell h.ptr (i := 1) rfl)
  obtain ⟨D, hD, hfit⟩ := h.safe
  have HD := Aside0.mk hD
  have HFIT := Aside0.mk hfit
  have HR := Aside0.mk hr
  have HOK := Aside0.mk h.ok
  have hnp := h.p_own
  clear h hD hfit hr
  go_enter Try.func30, Try.ntmps30
  go_wp2_with (at_range; refine wpList_range_own _ rfl _ _ rfl 3 116 law_int Try.underlying110 heldR s _ D rfl (HD.out.alloc _) ?_; intro w0 hrg0 hg0 hs0; rw [World.size_alloc])
  go_frame
  rw [World.size_alloc] at hrg0
  have HRG0 := Aside0.mk hrg0
  have hfr0 : Fr (fun b => some b = v.ownBlock) w w0 := ((Fr.refl _ _).alloc (.cells #[.slice A keep.length c] 24)).grown hg0 (fun k hk => by cases hk)
  have HFR0 := Aside0.mk hfr0
  have HBK := Aside0.mk (show w0.heap[w.heap.size]? = some (.cells #[.slice A keep.length c] 24 (0, 0)) from (hg0.block w.heap.size (by simp) (by simp)).trans (heap_alloc_new _ _))
  have HB0 := Aside0.mk (show Kd.R (Kd.int .u8) 5 w0 0 (fun k => k ≠ p) v (leftB d keep (has D)) by
    rw [leftB_start HOK.out keep HFIT.out]
    exact R_at HH.out.row (fun b hb => (hg0.block b (by have := HH.out.own_lt (.inl hb); simp; omega) (by simp)).trans (heap_alloc_old _ _ (HH.out.own_lt (.inl hb)))))
  have HS0 := Aside0.mk (show w.heap.size + 2 ≤ w0.heap.size by rw [hs0, World.size_alloc]; omega)
  clear hrg0 hg0 hs0 hfr0 d1
  go_loopw [5, 6] (fun _ _ wr => ∃ left cnt, Aside0 (wr.ranges Try.prog 3 heldR s (w.heap.size + 1) (Maps.size D) D left cnt) ∧ Aside0 (Kd.R (Kd.int .u8) 5 wr 0 (fun k => k ≠ p) v (leftB d keep left)) ∧ Aside0 (wr.heap[w.heap.size]? = some (.cells #[.slice A keep.length c] 24 (0, 0))) ∧ Aside0 (Fr (fun b => some b = v.ownBlock) w wr) ∧ Aside0 (w.heap.size + 2 ≤ wr.heap.size)) (fun _ _ wr => wr.rangeLeft s (w.heap.size + 1))
  case atStart => exact ⟨has D, Maps.size D, HRG0, HB0, HBK, HFR0, HS0⟩
  case round =>
    obtain ⟨left, cnt, HRG, HB, HBQ, HFR, HSZ⟩ := hrel
    have c1 := HFR.out.cell (blk_cell HH.out.ptr (i := 1) rfl) (fun e => hnp (.inl e))
    have c2 := HFR.out.cell (blk_cell HH.out.ptr (i := 2) rfl) (fun e => hnp (.inl e))
    go_wp2_with (at_next; refine wpList_next_ranges _ rfl _ rfl 3 law_int heldR (Value.int .i64) (fun (x : Value) => x) (fun key kl hkey => by obtain ⟨x, rfl, _⟩ := Maps.keyOf_int_inv Try.underlying3 hkey; exact ⟨x, rfl⟩) (fun u y hu => ⟨u, rfl⟩) s (w.heap.size + 1) _ D left cnt rfl HRG.out ?_ ?_)
    · intro _ hl0
      have HE := Aside0.mk (leftB_end (d := d) keep hl0)
      clear hl0
      have HMS := Aside0.mk (MapF.of_own HRG.out.owns HFIT.out)
      have HF1 := Aside0.mk (HH.out.fl.fr HFR.out (fun e => (HH.out.v_ne e).2 rfl))
      go_wp2_with (first | ((with_reducible refine gate_bi (b := .clear) (xs := #[.tmp 33]) rfl ?_); refine wpList_clear rfl (.tmp 33) 110 rfl Try.underlying110 rfl HMS.out ?_; intro w2 hm2 ht2; have HM2 := Aside0.mk hm2; have HT2 := Aside0.mk ht2; have e2 := (ht2.fr (S := fun b => b = s) rfl).cell c2 (fun e => hnp (.inr (.inl e))); have HF2 := Aside0.mk (HF1.out.fr (ht2.fr (S := fun b => b = s) rfl) (fun e => HH.out.ne e.symm)); clear hm2 ht2) | ((with_reducible refine gate_bi (b := .clear) (xs := #[.tmp 37]) rfl ?_); refine wpList_clear rfl (.tmp 37) 111 rfl Try.underlying111 rfl HF2.out ?_; intro w3 hm3 ht3))
      go_end0
      have hS := HH.out
      have hf23 : Fr (MapsD s f) wr w3 := (HT2.out.fr (S := MapsD s f) (.inl rfl)).trans' (ht3.fr (.inr rfl))
      have hfr : Fr (OwnD v s f) w w3 := (HFR.out.mono (fun b hb => .inl hb)).trans' (hf23.mono (fun b hb => hb.own))
      refine ⟨rfl, ⟨(hfr.block p hS.p_lt hS.p_own).trans hS.ptr, ?_, ?_, hm3.congr (fun kl => ?_), hS.ne, hS.ok.crash keep⟩, hfr⟩
      · rw [← HE.out]
        exact R_at HB.out (fun b hb => by
          obtain ⟨cs, t, fr, hc⟩ := own_blk HB.out hb
          exact hf23.block b (blk_lt hc) (fun e => by rcases e with e | e; exact (hS.v_ne hb).1 e; exact (hS.v_ne hb).2 e))
      · refine (HM2.out.fr (ht3.fr (S := fun b => b = f) rfl) hS.ne).congr (fun kl => ?_)
        unfold safeF
        split
        · split <;> rfl
        · rfl
      · unfold flF
        split
        · simp [Dev.crash]
        · rfl
    · intro x u kl yd yp w1 cnt1 hkey hlk hv hat hrg1 hlt hg1 hs1 hen
      obtain ⟨k, cc, hkl, hcc, hu⟩ := safe_key HFIT.out (v := u) (fun zd => (hat zd).trans (held_inv (y := (yd, yp)) hv))
      subst hkl hu
      obtain ⟨x', ex, ekl, _⟩ := Maps.keyOf_int_inv Try.underlying3 hkey
      simp only [Value.int.injEq, true_and] at ex
      subst ex
      simp only [Lit.int.injEq, true_and] at ekl
      subst ekl
      have hkB := HOK.out.dom k (by rw [hcc]; rfl)
      have hmx := HOK.out.max
      obtain ⟨y0, y1, y2, y3, y4, y5, y6, y7, rfl⟩ := list8 (HOK.out.safe k cc hcc).1
      have HCC := Aside0.mk hcc
      have HRG1 := Aside0.mk hrg1
      have HLT := Aside0.mk hlt
      have hvn : ¬ some (w.heap.size + 1) = v.ownBlock := fun e => absurd (HH.out.own_lt (.inl e)) (by omega)
      have HB1 := Aside0.mk (R_at HB.out (fun b hb => by
          obtain ⟨cs, t, fr, hc⟩ := own_blk HB.out hb
          exact hg1.block b (blk_lt hc) (fun e => hvn (by rw [← Option.some.inj e]; exact hb))))
      have HBQ1 := Aside0.mk ((hg1.block w.heap.size (by have := HSZ.out; omega) (fun e => by have := Option.some.inj e; omega)).trans HBQ.out)
      have HFR1 := Aside0.mk (HFR.out.grown hg1 (fun j hj => .inr (by have := Option.some.inj hj; omega)))
      have HSZ1 := Aside0.mk (show w.heap.size + 2 ≤ w1.heap.size by rw [hs1]; exact HSZ.out)
      have HEN := Aside0.mk hen
      have hen2 : (Instr.entry (.pointer (some ⟨w.heap.size + 1, 0, none⟩))).run Try.prog w1 = .ok (.tuple #[.int .i64 k, .agg #[.int .u8 y0, .int .u8 y1, .int .u8 y2, .int .u8 y3, .int .u8 y4, .int .u8 y5, .int .u8 y6, .int .u8 y7]]) w1 := hen
      have q0 := cell_alloc (blk_cell HBQ1.out (i := 0) rfl)
      clear hrg1 hkey hlk hv hat hlt hg1 hs1 hcc hen hvn
      by_cases hm : (k : Int) ∈ keep
      · have HMM := Aside0.mk (show decide ((k : Int) ∈ keep) = true from decide_eq_true hm)
        have HKE := Aside0.mk (leftB_kept HOK.out keep left hm)
        clear hm c1 c2
        go_wp2_with (go_at_call 72; have hlc := lost_calls _ w.heap.size A c keep k (q0 (.cells #[.int .u8 y0, .int .u8 y1, .int .u8 y2, .int .u8 y3, .int .u8 y4, .int .u8 y5, .int .u8 y6, .int .u8 y7] 116)) (reads_frA HR.out (HFR1.out.alloc _) hA); rw [HMM.out] at hlc; (with_reducible refine hlc.mono ?_); rintro e w2 ⟨rfl, hb2⟩; have HB2 := Aside0.mk (bel_step (below_alloc (Below.refl w1.heap.size w1) _) hb2); have HBX := Aside0.mk ((hb2.block w1.heap.size (by simp)).trans (heap_alloc_new w1 _)); clear hlc hb2)
        have hgb := grown_of_below HB2.out
        have hrg2 := HRG1.out.kept hgb (by simp) (by simp)
        refine ⟨⟨_, cnt1, ⟨hrg2⟩, ⟨?_⟩, ⟨(HB2.out.block _ (blk_lt HBQ1.out)).trans HBQ1.out⟩, ⟨HFR1.out.then_below HB2.out⟩, ⟨Nat.le_trans HSZ1.out HB2.out.size⟩⟩, ?_⟩
        · rw [← HKE.out]
          exact Kd.R_below HB1.out HB2.out
        · rw [hrg2.left_eq, HRG.out.left_eq]
          exact HLT.out
      · have HMM := Aside0.mk (show decide ((k : Int) ∈ keep) = false from decide_eq_false hm)
        have HLO := Aside0.mk (leftB_lost HOK.out keep left HCC.out hm)
        clear hm c1 c2
        go_wp2_with (go_at_call 72; have hlc := lost_calls _ w.heap.size A c keep k (q0 (.cells #[.int .u8 y0, .int .u8 y1, .int .u8 y2, .int .u8 y3, .int .u8 y4, .int .u8 y5, .int .u8 y6, .int .u8 y7] 116)) (reads_frA HR.out (HFR1.out.alloc _) hA); rw [HMM.out] at hlc; (with_reducible refine hlc.mono ?_); rintro e w2 ⟨rfl, hb2⟩; have HB2 := Aside0.mk (bel_step (below_alloc (Below.refl w1.heap.size w1) _) hb2); have HBX := Aside0.mk ((hb2.block w1.heap.size (by simp)).trans (heap_alloc_new w1 _)); clear hlc hb2)
        have HFR2 := Aside0.mk (HFR1.out.then_below HB2.out)
        have hB2 := Kd.R_below HB1.out HB2.out
        have hln := leftB_length HOK.out keep left
        obtain ⟨g, cap, rfl, hg1, hg2, hcap, hcap2⟩ := own_slice_form hB2 (by omega)
        rw [hln] at hB2 HB1 HH HB hcap
        have e0 : w2.cell? ⟨p, 0, none⟩ = some (.slice (some ⟨g, 0, none⟩) d.B.length cap) := HFR2.out.cell (blk_cell HH.out.ptr (i := 0) rfl) (fun e => hnp (.inl e))
        have HB2r := Aside0.mk hB2
        have HLN := Aside0.mk hln
        have e8 : IntKind.i64.wrap ((k : Int) * 8) = k * 8 := IntWalk.i64_in _ (by omega)
        have hfr := fun W => from_run g d.B.length cap (k * 8) ((k : Int) * 8) (by omega) (by omega) (by omega) W
        clear hB2 hln q0 hen2
        go_still_tail 8, (by kernel_rfl)
        have HRD := Aside0.mk (show Kd.R (Kd.int .u8) 5 w2.drew 0 (fun k => k ≠ p) (.slice (some ⟨g, 0, none⟩) (leftB d keep left).length cap) (leftB d keep left) by rw [HLN.out]; exact HB2r.out)
        have HCY := Aside0.mk (show ReadsInt w2.drew .u8 (some ⟨w1.heap.size, 0, none⟩) 8 [y0, y1, y2, y3, y4, y5, y6, y7] from arr_reads HBX.out)
        have HL8 := Aside0.mk (show k * 8 + 8 ≤ (leftB d keep left).length by rw [HLN.out]; omega)
        clear e8 hfr e0
        change wpList _ _ _ _ _ w2.drew
        go_wp2_with ((with_reducible refine gate_bi (b := .copy) (xs := #[.tmp 27, .tmp 28]) rfl ?_); go_must (refine wpList_copy_at (enc := Value.int .u8) (h1 := fun _ => rfl) (0 : Int) rfl (.tmp 27) (.tmp 28) 23 23 5 rfl Try.underlying23 (by kernel_rfl) g cap (k * 8) (some ⟨g, k * 8, none⟩) (d.B.length - k * 8) (cap - k * 8) (leftB d keep left) [y0, y1, y2, y3, y4, y5, y6, y7] (some ⟨w1.heap.size, 0, none⟩) 8 8 0 (fun k => k ≠ p) rfl rfl HRD.out (Kd.C_of_reads (d := (0 : Int)) (h1 := fun _ => rfl) HCY.out) HL8.out (by omega) (fun _ => rfl) ?_); intro w3 hr3 hg3; go_frame)
        have hgb := (grown_of_below (HB2.out.drew))
        have hgl : g < w.heap.size := HH.out.own_lt (.inl rfl)
        have hgs : g ≠ s := (HH.out.v_ne rfl).1
        have hrg2 := (HRG1.out.kept hgb (by simp) (by simp)).kept hg3 (fun e => hgs (Option.some.inj e).symm) (fun e => by have := Option.some.inj e; omega)
        refine ⟨⟨_, cnt1, ⟨hrg2⟩, ⟨?_⟩, ⟨?_⟩, ⟨?_⟩, ⟨?_⟩⟩, ?_⟩
        · have h := hr3
          rw [Nat.mul_comm k 8] at h
          rw [← HLO.out]
          exact h
        · exact (hg3.block w.heap.size (by have := HSZ1.out; have := HB2.out.size; show _ < w2.heap.size; omega) (fun e => by have := Option.some.inj e; omega)).trans ((HB2.out.block _ (blk_lt HBQ1.out)).trans HBQ1.out)
        · exact ((HFR1.out.then_below HB2.out).drew).grown hg3 (fun j hj => .inl hj.symm)
        · exact Nat.le_trans HSZ1.out (Nat.le_trans HB2.out.size hg3.size)
        · rw [hrg2.left_eq, HRG.out.left_eq]
          exact HLT.out
end Go.Proofs.Ytbfogcckbhkciaa.Hand
