/- What Write's and Flush's closures do of one word. -/
import Derived.Test.YtbfogcckbhkciaaHandPm1
import Derived.Deep.RegionHeld
import Derived.Deep.RegionHeld3
namespace Go.Proofs.Ytbfogcckbhkciaa.Hand
open Go.RowKit Go.Maps Go.Proofs.YtbfogcckbhkciaaW.PrintWords

theorem Fr.cell {S : Nat → Prop} {w w1 : World} (h : Fr S w w1) {a : Addr} {v : Value} (hc : w.cell? a = some v) (hs : ¬ S a.block) : w1.cell? a = some v := by
  have hb := h.block a.block (World.block_lt_of_cell? _ _ hc) hs
  rw [← hc]
  simp only [World.cell?, hb]
/-- The blocks of a device's maps. -/
def MapsD (s f b : Nat) : Prop := b = s ∨ b = f
theorem law_int : Keyed Try.prog 3 := int_keyed Try.underlying3
def cell0 : Value := .agg #[.int .u8 0, .int .u8 0, .int .u8 0, .int .u8 0, .int .u8 0, .int .u8 0, .int .u8 0, .int .u8 0]
theorem zero_cell (w : World) : (zeroValue 116).run Try.prog w = .ok (.agg #[.int .u8 0, .int .u8 0, .int .u8 0, .int .u8 0, .int .u8 0, .int .u8 0, .int .u8 0, .int .u8 0]) w := by kernel_rfl
theorem zero_int (w : World) : (zeroValue 3).run Try.prog w = .ok (.int .i64 0) w := by kernel_rfl
theorem key_nat {k : Nat} (h : k < 9223372036854775808) : keyOf Try.prog 3 (.int .i64 k) = some (.int .i64 k) := by
  refine keyOf_int_mk Try.underlying3 ?_
  simp only [Lit.wf, IntKind.min, IntKind.max, IntKind.signed, IntKind.bits, Bool.and_eq_true]
  simp
  omega
theorem list8 {c : List Int} (h : c.length = 8) : ∃ y0 y1 y2 y3 y4 y5 y6 y7, c = [y0, y1, y2, y3, y4, y5, y6, y7] := by
  match c, h with
  | [a, b, c, d, e, f, g, h], _ => exact ⟨a, b, c, d, e, f, g, h, rfl⟩
/-- One word is loose, and not flushed. -/
def Dev.touch (d : Dev) (k : Nat) : Dev := { B := d.B, S := fun j => if j = k then some ((d.S k).getD (word d.B k)) else d.S j, F := fun j => d.F j && !(j == k) }
theorem word_length {B : List Int} {k : Nat} (h : 8 * k + 8 ≤ B.length) : (word B k).length = 8 := cut_length h
theorem word_bys {B : List Int} (h : Bys B) (k : Nat) : Bys (word B k) := cut_bys h _ _
theorem Dev.Ok.touch {d : Dev} (h : d.Ok) {k : Nat} (hk : 8 * k + 8 ≤ d.B.length) : (d.touch k).Ok := by
  refine ⟨h.len, h.max, h.bys, fun j hj => ?_, fun j c hj => ?_, fun j hj => ?_⟩
  · by_cases e : j = k
    · subst e; exact hk
    · exact h.dom j (by simpa [Dev.touch, e] using hj)
  · by_cases e : j = k
    · subst e
      simp only [Dev.touch, if_true, Option.some.injEq] at hj
      cases hs : d.S j with
      | some c' =>
        rw [hs] at hj
        obtain rfl : c' = c := hj
        exact h.safe j c' hs
      | none =>
        rw [hs] at hj
        obtain rfl : word d.B j = c := hj
        exact ⟨word_length hk, word_bys h.bys j⟩
    · exact h.safe j c (by simpa [Dev.touch, e] using hj)
  · simp only [Dev.touch, Bool.and_eq_true] at hj ⊢
    by_cases e : j = k
    · simp [e] at hj
    · rw [if_neg e]
      exact h.sub j hj.1
theorem sameKey_int (q : IntKind) (a : Int) : (Lit.int q a).sameKey (.int q a) = true := WideAt.sameKey_self trivial
theorem safeF_touch (d : Dev) (k : Nat) (x : Lit) : safeF (d.touch k).S x = updF (safeF d.S) (.int .i64 k) (cellV ((d.S k).getD (word d.B k))) x := by
  by_cases hx : x = .int .i64 k
  · subst hx
    rw [safeF_nat, updF, if_pos (sameKey_int _ _)]
    simp [Dev.touch]
  · rw [updF, if_neg (by rw [sameKey_ne hx]; simp)]
    unfold safeF
    split
    · rename_i a
      split
      · rename_i ha
        have : a.toNat ≠ k := fun e => hx (by rw [← e, Int.toNat_of_nonneg ha])
        simp [Dev.touch, this]
      · rfl
    · rfl
theorem flF_touch (d : Dev) (k : Nat) (x : Lit) : flF (d.touch k).F x = delF (flF d.F) (.int .i64 k) x := by
  by_cases hx : x = .int .i64 k
  · subst hx
    rw [flF_nat, delF, if_pos (sameKey_int _ _)]
    simp [Dev.touch]
  · rw [delF, if_neg (by rw [sameKey_ne hx]; simp)]
    unfold flF
    split
    · rename_i a
      by_cases ha : 0 ≤ a
      · have : a.toNat ≠ k := fun e => hx (by rw [← e, Int.toNat_of_nonneg ha])
        simp [Dev.touch, this]
      · simp [ha]
    · rfl
theorem getD_some8 {S : Nat → Option (List Int)} {k : Nat} {c : List Int} (h : S k = some c) : safeF S (.int .i64 k) = some (cellV c) := by rw [safeF_nat, h]; rfl
theorem getD_none8 {S : Nat → Option (List Int)} {k : Nat} (h : S k = none) : safeF S (.int .i64 k) = none := by rw [safeF_nat, h]; rfl
set_option maxRecDepth 100000 in
theorem w1_yes (p q : Nat) (v : Value) (s f : Nat) (d : Dev) (k : Nat) (c : List Int) (w : World) (h : HasD w p v s f d) (hq : w.cell? ⟨q, 0, none⟩ = some (.pointer (some ⟨p, 0, none⟩))) (hk : 8 * k + 8 ≤ d.B.length) (hc : d.S k = some c) :
    Calls Try.prog 64 #[.int .i64 k, .pointer (some ⟨q, 0, none⟩)] w fun e w' => e = .returned (.tuple #[]) ∧ HasD w' p v s f (d.touch k) ∧ Fr (MapsD s f) w w' := by
  have HH := Aside0.mk h
  have c1 := blk_cell h.ptr (i := 1) rfl
  have c2 := blk_cell h.ptr (i := 2) rfl
  have C1 := Aside0.mk (cell_alloc c1)
  have d2 := cell_alloc c2
  have hq2 := cell_alloc hq
  have hm := h.ok.max
  have HKY := Aside0.mk (key_nat (k := k) (by omega))
  obtain ⟨y0, y1, y2, y3, y4, y5, y6, y7, rfl⟩ := list8 (h.ok.safe k c hc).1
  have HM := Aside0.mk h.safe
  have HF := Aside0.mk (h.fl.below (below_alloc (Below.refl w.heap.size w) (.cells #[.int .u8 y0, .int .u8 y1, .int .u8 y2, .int .u8 y3, .int .u8 y4, .int .u8 y5, .int .u8 y6, .int .u8 y7] 116)))
  have HG := Aside0.mk (getD_some8 hc)
  have HC := Aside0.mk hc
  clear h hc c2
  go_enter Try.func64, Try.ntmps64
  go_wp2_with (first | (at_lookup; refine wpList_look rfl (.tmp 9) (.tmp 10) 110 rfl law_int Try.underlying110 (zero_cell _) rfl HM.out (.int .i64 k) (.int .i64 k) rfl HKY.out (some (.agg #[.int .u8 y0, .int .u8 y1, .int .u8 y2, .int .u8 y3, .int .u8 y4, .int .u8 y5, .int .u8 y6, .int .u8 y7])) HG.out ?_) | (at_delete; refine wpList_del rfl (.tmp 27) (.tmp 28) 111 rfl law_int Try.underlying111 rfl HF.out (.int .i64 k) (.int .i64 k) rfl HKY.out ?_; intro w2 hm2 ht2))
  go_end0
  refine ⟨rfl, ?_, ?_⟩
  · have hfr : Fr (fun b => b = f) w w2 := ((Fr.refl _ _).alloc _).trans' (ht2.fr rfl)
    have hne : ∀ b, b ≠ f → b < w.heap.size → w2.heap[b]? = w.heap[b]? := fun b hb hl => hfr.block b hl hb
    refine ⟨(hne p (fun e => HH.out.p_own (.inr (.inr e))) HH.out.p_lt).trans HH.out.ptr, R_at HH.out.row (fun b hb => hne b (HH.out.v_ne hb).2 (HH.out.own_lt (.inl hb))), ?_, hm2.congr (fun kl => (flF_touch d k kl).symm), HH.out.ne, HH.out.ok.touch hk⟩
    refine (HH.out.safe.same (hne s HH.out.ne HH.out.safe.lt)).congr (fun kl => ?_)
    rw [safeF_touch, updF]
    split
    · rename_i hkl
      obtain rfl := WideAt.sameKey_eq hkl
      rw [safeF_nat, HC.out]
      rfl
    · rfl
  · exact ((Fr.refl _ _).alloc _).trans' (ht2.fr (.inr rfl))
set_option maxRecDepth 100000 in
theorem w1_no (p q : Nat) (v : Value) (s f : Nat) (d : Dev) (k : Nat) (w : World) (h : HasD w p v s f d) (hq : w.cell? ⟨q, 0, none⟩ = some (.pointer (some ⟨p, 0, none⟩))) (hqo : ¬ OwnD v s f q) (hk : 8 * k + 8 ≤ d.B.length) (hc : d.S k = none) :
    Calls Try.prog 64 #[.int .i64 k, .pointer (some ⟨q, 0, none⟩)] w fun e w' => e = .returned (.tuple #[]) ∧ HasD w' p v s f (d.touch k) ∧ Fr (MapsD s f) w w' := by
  have HH := Aside0.mk h
  have HQ := Aside0.mk hq
  have c1 := blk_cell h.ptr (i := 1) rfl
  have d1 := cell_alloc c1
  have hq2 := cell_alloc hq
  have hm := h.ok.max
  have HKY := Aside0.mk (key_nat (k := k) (by omega))
  have HM := Aside0.mk h.safe
  have HG := Aside0.mk (getD_none8 hc)
  have HC := Aside0.mk hc
  clear h hc
  go_enter Try.func64, Try.ntmps64
  go_wp2_with (at_lookup; refine wpList_look rfl (.tmp 9) (.tmp 10) 110 rfl law_int Try.underlying110 (zero_cell _) rfl HM.out (.int .i64 k) (.int .i64 k) rfl HKY.out none HG.out ?_)
  obtain ⟨wb, hwb⟩ : ∃ wb, wb = w.alloc (Obj.cells #[.int .u8 0, .int .u8 0, .int .u8 0, .int .u8 0, .int .u8 0, .int .u8 0, .int .u8 0, .int .u8 0] 116) := ⟨_, rfl⟩
  have HBb := Aside0.mk (show Below w.heap.size w wb by rw [hwb]; exact below_alloc (Below.refl _ _) _)
  have HSb := Aside0.mk (HH.out.move HBb.out)
  have b0 : wb.cell? ⟨q, 0, none⟩ = some (.pointer (some ⟨p, 0, none⟩)) := by rw [hwb]; exact hq2 _
  have b1 : wb.cell? ⟨p, 1, none⟩ = some (.map (some s)) := by rw [hwb]; exact d1 _
  rw [← hwb]
  have HBd := Aside0.mk HBb.out.drew
  have HSd := Aside0.mk (HSb.out.move (Below.refl _ _).drew)
  have b0d : wb.drew.cell? ⟨q, 0, none⟩ = some (.pointer (some ⟨p, 0, none⟩)) := b0
  have b1d : wb.drew.cell? ⟨p, 1, none⟩ = some (.map (some s)) := b1
  clear hwb d1 hq2 c1 hq
  go_region_held (fun w' => w'.cell? ⟨q, 0, none⟩ = some (.pointer (some ⟨p, 0, none⟩)) ∧ w'.cell? ⟨p, 1, none⟩ = some (.map (some s))) (go_keep) (first | (go_at_call 65; (with_reducible refine (at_calls wb.drew p v s f d k HSd.out hk).mono ?_); rintro e w2 ⟨rfl, hb2⟩; have HS2 := Aside0.mk (HSd.out.move hb2); have HB2 := Aside0.mk (bel_step HBd.out hb2); have g0 := (hb2.cell (World.block_lt_of_cell? _ _ b0d)).trans b0d; have g1 := (hb2.cell (World.block_lt_of_cell? _ _ b1d)).trans b1d; obtain ⟨w3, hr3, hm3, ht3⟩ := HS2.out.safe.upd law_int Try.underlying110 HS2.out.ok.roomS (by decide) (val := cellV (word d.B k)) HKY.out; have HM3 := Aside0.mk hm3; have HT3 := Aside0.mk ht3; have i0 := (ht3.fr (S := fun b => b = s) rfl).cell g0 (fun e => hqo (.inr (.inl e))); have i1 := (ht3.fr (S := fun b => b = s) rfl).cell g1 (fun e => HH.out.p_own (.inr (.inl e))); clear hb2 hm3 ht3))
  have HF3 := Aside0.mk (HS2.out.fl.fr (HT3.out.fr (S := fun b => b = s) rfl) (fun e => HH.out.ne e.symm))
  have i2 := (HT3.out.fr (S := fun b => b = s) rfl).cell (blk_cell HS2.out.ptr (i := 2) rfl) (fun e => HH.out.p_own (.inr (.inl e)))
  clear hr3
  go_wp2_with (at_delete; refine wpList_del rfl (.tmp 27) (.tmp 28) 111 rfl law_int Try.underlying111 rfl HF3.out (.int .i64 k) (.int .i64 k) rfl HKY.out ?_; intro w4 hm4 ht4)
  go_end0
  have hfr : Fr (fun b => b = s ∨ b = f) w2 w4 := (HT3.out.fr (S := fun b => b = s ∨ b = f) (.inl rfl)).trans' (ht4.fr (.inr rfl))
  have hS := HS2.out
  refine ⟨rfl, ?_, ((Fr.of_below HB2.out _).trans' (hfr.mono (fun b hb => ?_)))⟩
  · refine ⟨(hfr.block p hS.p_lt (fun e => hS.p_own (.inr e))).trans hS.ptr, R_at hS.row (fun b hb => hfr.block b (hS.own_lt (.inl hb)) (fun e => by rcases e with e | e; exact (hS.v_ne hb).1 e; exact (hS.v_ne hb).2 e)), ?_, hm4.congr (fun kl => (flF_touch d k kl).symm), hS.ne, hS.ok.touch hk⟩
    refine (HM3.out.fr (ht4.fr (S := fun b => b = f) rfl) hS.ne).congr (fun kl => ?_)
    rw [safeF_touch, HC.out]
    rfl
  · exact hb
theorem w1_calls (p q : Nat) (v : Value) (s f : Nat) (d : Dev) (k : Nat) (w : World) (h : HasD w p v s f d) (hq : w.cell? ⟨q, 0, none⟩ = some (.pointer (some ⟨p, 0, none⟩))) (hqo : ¬ OwnD v s f q) (hk : 8 * k + 8 ≤ d.B.length) :
    Calls Try.prog 64 #[.int .i64 k, .pointer (some ⟨q, 0, none⟩)] w fun e w' => e = .returned (.tuple #[]) ∧ HasD w' p v s f (d.touch k) ∧ Fr (MapsD s f) w w' := by
  cases hc : d.S k with
  | some c => exact w1_yes p q v s f d k c w h hq hk hc
  | none => exact w1_no p q v s f d k w h hq hqo hk hc
/-- One word is flushed, if it is loose. -/
def Dev.mark (d : Dev) (k : Nat) : Dev := { d with F := fun j => d.F j || (j == k && (d.S k).isSome) }
theorem Dev.Ok.mark {d : Dev} (h : d.Ok) (k : Nat) : (d.mark k).Ok := by
  refine ⟨h.len, h.max, h.bys, h.dom, h.safe, fun j hj => ?_⟩
  simp only [Dev.mark, Bool.or_eq_true, Bool.and_eq_true, beq_iff_eq] at hj ⊢
  rcases hj with hj | ⟨rfl, hj⟩
  · exact h.sub j hj
  · exact hj
theorem flF_mark (d : Dev) (k : Nat) (hs : (d.S k).isSome = true) (x : Lit) : flF (d.mark k).F x = updF (flF d.F) (.int .i64 k) (.int .i64 1) x := by
  by_cases hx : x = .int .i64 k
  · subst hx
    rw [flF_nat, updF, if_pos (sameKey_int _ _)]
    simp [Dev.mark, hs]
  · rw [updF, if_neg (by rw [sameKey_ne hx]; simp)]
    unfold flF
    split
    · rename_i a
      by_cases ha : 0 ≤ a
      · have : a.toNat ≠ k := fun e => hx (by rw [← e, Int.toNat_of_nonneg ha])
        simp [Dev.mark, this]
      · simp [ha]
    · rfl
set_option maxRecDepth 100000 in
theorem f1_no (p q : Nat) (v : Value) (s f : Nat) (d : Dev) (k : Nat) (w : World) (h : HasD w p v s f d) (hq : w.cell? ⟨q, 0, none⟩ = some (.pointer (some ⟨p, 0, none⟩))) (hk : 8 * k + 8 ≤ d.B.length) (hc : d.S k = none) :
    Calls Try.prog 66 #[.int .i64 k, .pointer (some ⟨q, 0, none⟩)] w fun e w' => e = .returned (.tuple #[]) ∧ HasD w' p v s f (d.mark k) ∧ Fr (MapsD s f) w w' := by
  have HH := Aside0.mk h
  have c1 := blk_cell h.ptr (i := 1) rfl
  have hm := h.ok.max
  have HKY := Aside0.mk (key_nat (k := k) (by omega))
  have HM := Aside0.mk h.safe
  have HG := Aside0.mk (getD_none8 hc)
  have HE := Aside0.mk (show d.mark k = d by
    have : (fun j => d.F j || (j == k && (d.S k).isSome)) = d.F := by funext j; rw [hc]; simp
    rw [Dev.mark, this])
  clear h hc
  go_enter Try.func66, Try.ntmps66
  go_wp2_with (at_lookup; refine wpList_look rfl (.tmp 9) (.tmp 10) 110 rfl law_int Try.underlying110 (zero_cell _) rfl HM.out (.int .i64 k) (.int .i64 k) rfl HKY.out none HG.out ?_)
  go_end0
  rw [HE.out]
  exact ⟨rfl, HH.out.move (below_alloc (Below.refl _ _) _), (Fr.refl _ _).alloc _⟩
set_option maxRecDepth 100000 in
theorem f1_yes (p q : Nat) (v : Value) (s f : Nat) (d : Dev) (k : Nat) (c : List Int) (w : World) (h : HasD w p v s f d) (hq : w.cell? ⟨q, 0, none⟩ = some (.pointer (some ⟨p, 0, none⟩))) (hk : 8 * k + 8 ≤ d.B.length) (hc : d.S k = some c) :
    Calls Try.prog 66 #[.int .i64 k, .pointer (some ⟨q, 0, none⟩)] w fun e w' => e = .returned (.tuple #[]) ∧ HasD w' p v s f (d.mark k) ∧ Fr (MapsD s f) w w' := by
  have HH := Aside0.mk h
  have c1 := blk_cell h.ptr (i := 1) rfl
  have c2 := blk_cell h.ptr (i := 2) rfl
  have d2 := cell_alloc c2
  have hq2 := cell_alloc hq
  have hm := h.ok.max
  have HKY := Aside0.mk (key_nat (k := k) (by omega))
  obtain ⟨y0, y1, y2, y3, y4, y5, y6, y7, rfl⟩ := list8 (h.ok.safe k c hc).1
  have HM := Aside0.mk h.safe
  have HF := Aside0.mk (h.fl.below (below_alloc (Below.refl w.heap.size w) (.cells #[.int .u8 y0, .int .u8 y1, .int .u8 y2, .int .u8 y3, .int .u8 y4, .int .u8 y5, .int .u8 y6, .int .u8 y7] 116)))
  have HG := Aside0.mk (getD_some8 hc)
  have HC := Aside0.mk hc
  clear h hc c2
  go_enter Try.func66, Try.ntmps66
  go_wp2_with (first | (at_lookup; refine wpList_look rfl (.tmp 9) (.tmp 10) 110 rfl law_int Try.underlying110 (zero_cell _) rfl HM.out (.int .i64 k) (.int .i64 k) rfl HKY.out (some (.agg #[.int .u8 y0, .int .u8 y1, .int .u8 y2, .int .u8 y3, .int .u8 y4, .int .u8 y5, .int .u8 y6, .int .u8 y7])) HG.out ?_) | (at_mapUpdate; refine wpList_upd rfl (.tmp 18) (.tmp 19) (.const (.int .i64 1)) 111 rfl law_int Try.underlying111 8192 (by decide) rfl HF.out HH.out.ok.roomF (.int .i64 k) (.int .i64 1) (.int .i64 k) rfl rfl HKY.out ?_; intro w2 hm2 ht2))
  go_end0
  have hfr : Fr (fun b => b = f) w w2 := ((Fr.refl _ _).alloc _).trans' (ht2.fr rfl)
  have hne : ∀ b, b ≠ f → b < w.heap.size → w2.heap[b]? = w.heap[b]? := fun b hb hl => hfr.block b hl hb
  refine ⟨rfl, ?_, hfr.mono (fun b hb => .inr hb)⟩
  exact ⟨(hne p (fun e => HH.out.p_own (.inr (.inr e))) HH.out.p_lt).trans HH.out.ptr, R_at HH.out.row (fun b hb => hne b (HH.out.v_ne hb).2 (HH.out.own_lt (.inl hb))), HH.out.safe.same (hne s HH.out.ne HH.out.safe.lt), hm2.congr (fun kl => (flF_mark d k (by rw [HC.out]; rfl) kl).symm), HH.out.ne, HH.out.ok.mark k⟩
theorem f1_calls (p q : Nat) (v : Value) (s f : Nat) (d : Dev) (k : Nat) (w : World) (h : HasD w p v s f d) (hq : w.cell? ⟨q, 0, none⟩ = some (.pointer (some ⟨p, 0, none⟩))) (hk : 8 * k + 8 ≤ d.B.length) :
    Calls Try.prog 66 #[.int .i64 k, .pointer (some ⟨q, 0, none⟩)] w fun e w' => e = .returned (.tuple #[]) ∧ HasD w' p v s f (d.mark k) ∧ Fr (MapsD s f) w w' := by
  cases hc : d.S k with
  | some c => exact f1_yes p q v s f d k c w h hq hk hc
  | none => exact f1_no p q v s f d k w h hq hk hc
end Go.Proofs.Ytbfogcckbhkciaa.Hand
