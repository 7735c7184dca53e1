/- Slots of bytes, behind a script, and the document's. -/
import Derived.Test.YtbogfjadmiodkaaHandSlStands
namespace Go.Proofs.Ytbogfjadmiodkaa.Hand
open Go.RowKit Go.Proofs.YtbogfjadmiodkaaW.PrintWords
set_option linter.unusedVariables false
set_option linter.unusedSimpArgs false

def encOp (o : OpT) : List Value := [.int .i64 o.1, .int .i64 o.2.1.1, .int .i64 o.2.1.2, .int .u64 o.2.2]
theorem encOp_len (o : OpT) : (encOp o).length = 4 := rfl
theorem encOp_one (o : OpT) : ∀ u ∈ encOp o, u.oneCell' = true := by
  intro u hu
  simp only [encOp, List.mem_cons, List.not_mem_nil, or_false] at hu
  rcases hu with rfl | rfl | rfl | rfl <;> rfl
def OpK : Kd OpT := flat encOp 4 encOp_len encOp_one
/-- A number of a call is one of 64 bits. -/
def WfOp (o : OpT) : Prop := 0 ≤ o.2.2 ∧ o.2.2 < 18446744073709551616
def runM (L : List Sl) (os : List OpT) : List Sl := os.foldl (fun L o => (doM L o).1) L
theorem row_fr {e : Nat} {S ok : Nat → Prop} {w w1 : World} {v : Value} {L : List Sl} (h : SlK.R e w 0 ok v L) (hf : Fr S w w1) (hn : ∀ k, ok k → ¬ S k) : SlK.R e w1 0 (fun k => ok k ∧ k < w.heap.size) v L := by
  obtain ⟨h0, ho⟩ := R_flat.1 h
  have hlt : ∀ k, v.ownBlock = some k → k < w.heap.size := fun k hk => by
    obtain ⟨cs, hc⟩ := own_typed ho k hk
    exact blk_lt hc
  exact R_flat.2 ⟨fun k hk => ⟨h0 k hk, hlt k hk⟩, own_move ho (fun k hk => hf.block k (hlt k hk) (hn k (h0 k hk)))⟩
/-- The document's slots lie where no call on the others writes. -/
def Apart (w : World) (p : Nat) (v : Value) (k : Nat) : Prop := New w k ∧ k ≠ p ∧ ¬ some k = v.ownBlock
theorem apart_or {w wr : World} {p : Nat} {v : Value} {L : List Sl} {o : Obj} (h : HasSl wr p v L) (hb : Below w.heap.size w wr) : ∀ k, Apart w p v k ∨ (wr.alloc o).heap.size ≤ k → Apart w p v k := by
  rintro k (hk | hk)
  · exact hk
  · have h1 : wr.heap.size + 1 ≤ k := by simpa using hk
    have h2 := hb.size
    have h3 := blk_lt h.ptr
    exact ⟨by show w.heap.size ≤ k; omega, by omega, h.own_lt (by omega)⟩
theorem made_none (w : World) (A B : Option Addr) (c d : Nat) (l : List Int) (n : Nat) (hr : ReadsInt w .u8 A l.length l) (hb : Bys l) (hlen : l.length ≤ 140737488355328) (hd : decM l = none) :
    Calls Try.prog 22 #[.slice A l.length c, .slice B n d] w fun e w' => e = .returned (.tuple #[.pointer none, .slice none 0 0, .bool true]) ∧ Below w.heap.size w w' := by
  have HR := Aside0.mk hr
  have HBY := Aside0.mk hb
  have HD := Aside0.mk hd
  have HC := Aside0.mk (fun W (h : Below w.heap.size w W) => conv_reads (c := c) (hr.below h))
  clear hr hb hd
  go_enter Try.func22, Try.ntmps22
  go_wp2_with (first | (go_at_call 23; (with_reducible refine (decode_calls w A c l HR.out HBY.out).mono ?_); rintro e w1 ⟨⟨p, v, L, hL, _⟩ | ⟨_, rfl⟩, hb1⟩; (exact absurd (HD.out.symm.trans hL) (by simp)); have HB1 := Aside0.mk hb1; have hcv := HC.out w1 hb1; clear hb1) | (go_at_call 36; (with_reducible refine (rdecode_calls _ l HBY.out hlen).mono ?_); rintro e w2 ⟨⟨v, L, hL, _⟩ | ⟨_, rfl⟩, hb2⟩; (exact absurd (HD.out.symm.trans hL) (by simp)); have HB2 := Aside0.mk (bel_step HB1.out hb2); clear hb2))
  go_ret3
  exact ⟨rfl, HB2.out⟩
/-- What made leaves, where the bytes are slots. -/
def MadeRes (w : World) (L : List Sl) (e : Ending) (w' : World) : Prop :=
  ∃ (p : Nat) (v u : Value), e = .returned (.tuple #[.pointer (some ⟨p, 0, none⟩), u, .bool true]) ∧ HasSl w' p v L ∧ SlK.R 57 w' 0 (Apart w p v) u L ∧ w.heap.size ≤ p ∧ (∀ b, some b = v.ownBlock → w.heap.size ≤ b) ∧ (∀ x ∈ L, WfSl x) ∧ L.length ≤ 256 ∧ Below w.heap.size w w'
theorem made_some (w : World) (A B : Option Addr) (c d : Nat) (l : List Int) (os : List OpT) (L : List Sl) (hr : ReadsInt w .u8 A l.length l) (hb : Bys l) (hlen : l.length ≤ 140737488355328) (hd : decM l = some L) (ho : OpK.C w B os.length os) (hwo : ∀ o ∈ os, WfOp o) (hol : os.length ≤ 65536) :
    Calls Try.prog 22 #[.slice A l.length c, .slice B os.length d] w (MadeRes w (runM L os)) := by
  have HR := Aside0.mk hr
  have HBY := Aside0.mk hb
  have HD := Aside0.mk hd
  have HO := Aside0.mk ho
  have HWO := Aside0.mk hwo
  have HC := Aside0.mk (fun W (h : Below w.heap.size w W) => conv_reads (c := c) (hr.below h))
  clear hr hb hd ho hwo
  go_enter Try.func22, Try.ntmps22
  go_wp2_with (first | (go_at_call 23; (with_reducible refine (decode_calls w A c l HR.out HBY.out).mono ?_); rintro e w1 ⟨⟨p, v, L', hL, rfl, hs1, hp1, hv1, hw1, hn1⟩ | ⟨hL, _⟩, hb1⟩; rotate_left; (exact absurd (hL.symm.trans HD.out) (by simp)); (obtain rfl : L = L' := Option.some.inj (HD.out.symm.trans hL)); have HB1 := Aside0.mk hb1; have hcv := HC.out w1 hb1; have HS1 := Aside0.mk hs1; have HP1 := Aside0.mk hp1; have HV1 := Aside0.mk hv1; have HW1 := Aside0.mk hw1; clear hb1 hL hs1 hp1 hv1 hw1) | (go_at_call 36; (with_reducible refine (rdecode_calls _ l HBY.out hlen).mono ?_); rintro e w2 ⟨⟨u, L', hL, rfl, hr2⟩ | ⟨hL, _⟩, hb2⟩; rotate_left; (exact absurd (hL.symm.trans HD.out) (by simp)); (obtain rfl : L = L' := Option.some.inj (HD.out.symm.trans hL)); have HB2 := Aside0.mk (bel_step HB1.out hb2); have HS2 := Aside0.mk (HS1.out.move hb2); have HR2 := Aside0.mk hr2; have HAP := Aside0.mk (show ∀ k, New w1 k → Apart w p v k from fun k hk => ⟨Nat.le_trans HB1.out.size hk, (by have h1 := blk_lt HS1.out.ptr; have h2 : w1.heap.size ≤ k := hk; omega), HS1.out.own_lt hk⟩); obtain ⟨A', c', hu, _, _⟩ := flat_reads hr2; clear hL hr2 hb2; subst hu) | (go_at_call 25; (with_reducible refine (stands_calls w2 p v A' c' L HS2.out (rd_of HR2.out) hn1).mono ?_); rintro e w3 ⟨rfl, hb3⟩; have HB3 := Aside0.mk (bel_step HB2.out hb3); have HS3 := Aside0.mk (HS2.out.move hb3); have HR3 := Aside0.mk (Kd.R_mono (Kd.R_below HR2.out hb3) HAP.out); clear hb3))
  go_loopw [9, 54] (fun lv i wr => ∃ (k : Nat) (Lk : List Sl) (Ak : Option Addr) (ck : Nat), k ≤ os.length ∧ i = .int .i64 k ∧ lv = .slice Ak Lk.length ck ∧ Aside0 (Lk = runM L (os.take k)) ∧ Aside0 (HasSl wr p v Lk) ∧ Aside0 (SlK.R 57 wr 0 (Apart w p v) (.slice Ak Lk.length ck) Lk) ∧ Aside0 (∀ x ∈ Lk, WfSl x) ∧ Lk.length ≤ 256 ∧ Aside0 (Below w.heap.size w wr)) (fun _ i _ => (os.length - intOf i).toNat)
  case atStart => exact ⟨0, L, A', c', Nat.zero_le _, rfl, rfl, ⟨by rw [List.take_zero]; rfl⟩, HS3, HR3, HW1, hn1, HB3⟩
  case round =>
    obtain ⟨k, Lk, Ak, ck, hk, rfl, rfl, HE, HS, HRk, HW, hlk, HB⟩ := hrel
    by_cases hlt : k < os.length
    · obtain ⟨o, hx⟩ : ∃ o, os[k]? = some o := ⟨_, List.getElem?_eq_getElem hlt⟩
      obtain ⟨bb, ob, hB, hcb⟩ := C_at (Kd.C_below HO.out HB.out) (by decide) hx
      subst hB
      have HX := Aside0.mk (show os.take (k + 1) = os.take k ++ [o] from take_snoc hx)
      have HWO1 := Aside0.mk (HWO.out o (List.mem_of_getElem? hx))
      obtain ⟨q, ⟨s, g⟩, n⟩ := o
      have b0 : wr.cell? ⟨bb, ob + k * 4, none⟩ = some (.int .i64 q) := hcb 0 (by decide)
      have b1 : wr.cell? ⟨bb, ob + k * 4 + 1, none⟩ = some (.int .i64 s) := hcb 1 (by decide)
      have b2 : wr.cell? ⟨bb, ob + k * 4 + 2, none⟩ = some (.int .i64 g) := hcb 2 (by decide)
      have b3 : wr.cell? ⟨bb, ob + k * 4 + 3, none⟩ = some (.int .u64 n) := hcb 3 (by decide)
      clear hcb hx
      obtain ⟨⟨Ln, ⟨hs, hg⟩, vv, ee⟩, hr⟩ : ∃ r, r = doM Lk (q, (s, g), n) := ⟨_, rfl⟩
      have HDO := Aside0.mk hr
      have HLn := Aside0.mk (show Ln.length = Lk.length by have := congrArg (fun r => r.1.length) hr; simp only at this; rw [this, doM_len])
      clear hr
      go_wp2_with (first | (go_at_call 37; (with_reducible refine (rDo_calls _ (Apart w p v) Ak ck Lk q s g n (Kd.R_below HRk.out (below_alloc (Below.refl _ _) _)) HW.out (by omega)).mono ?_); rw [← HDO.out]; rintro e w4 ⟨u4, rfl, hr4, hb4⟩; have HB4 := Aside0.mk (bel_step (below_alloc HB.out _) hb4); have HS4 := Aside0.mk ((HS.out.move (below_alloc (Below.refl _ _) _)).move hb4); have hob := (hb4.block wr.heap.size (by simp)).trans (heap_alloc_new wr _); have o0 := cell_alloc (blk_cell hob (i := 0) rfl); have o1 := cell_alloc (blk_cell hob (i := 1) rfl); have o2 := cell_alloc (blk_cell hob (i := 2) rfl); have o3 := cell_alloc (blk_cell hob (i := 3) rfl); have HR4 := Aside0.mk (Kd.R_mono hr4 (apart_or HS.out HB.out)); obtain ⟨A4, c4, hu4, _, _⟩ := flat_reads hr4; subst hu4; clear hr4 hb4 hob) | (go_at_call 26; (with_reducible refine (does_calls _ p v Lk q s g n (HS4.out.move (below_alloc (Below.refl _ _) _)) HW.out (by omega)).mono ?_); rw [← HDO.out]; rintro e w5 ⟨rfl, hs5, hf5⟩; have HS5 := Aside0.mk hs5; have HF5 := Aside0.mk hf5; have HR5 := Aside0.mk (Kd.R_mono (row_fr (Kd.R_below HR4.out (below_alloc (Below.refl _ _) _)) hf5 (fun k hk => hk.2.2)) (fun k hk => hk.1)); have hhb := hf5.get (heap_alloc_new w4 _) (HS4.out.own_lt (Nat.le_refl _)); have h0 := cell_alloc (blk_cell hhb (i := 0) rfl); have h1 := cell_alloc (blk_cell hhb (i := 1) rfl); have HB5 := Aside0.mk ((below_alloc HB4.out _).trans (hf5.below _ (below_alloc HB4.out _).size (fun b hb => HV1.out b hb))); clear hs5 hf5 hhb) | (go_at_call 25; (with_reducible refine (stands_calls _ p v A4 c4 Ln (HS5.out.move (below_alloc (Below.refl _ _) _)) (rd_of (Kd.R_below HR5.out (below_alloc (Below.refl _ _) _))) (by have := HLn.out; omega)).mono ?_); rintro e w6 ⟨rfl, hb6⟩; have HB6 := Aside0.mk (bel_step (below_alloc HB5.out _) hb6); have HS6 := Aside0.mk ((HS5.out.move (below_alloc (Below.refl _ _) _)).move hb6); have HR6 := Aside0.mk (Kd.R_below (Kd.R_below HR5.out (below_alloc (Below.refl _ _) _)) hb6); clear hb6))
      refine ⟨⟨k + 1, Ln, A4, c4, by omega, by go_num, rfl, ⟨?_⟩, HS6, HR6, ⟨?_⟩, by have := HLn.out; omega, HB6⟩, by simp [intOf]; omega⟩
      · rw [HX.out, runM, List.foldl_append, show List.foldl (fun L o => (doM L o).1) L (os.take k) = Lk from HE.out.symm]
        exact congrArg (fun r => r.1) HDO.out
      · have hwf := doM_wf (o := (q, (s, g), n)) HW.out HWO1.out
        rw [← HDO.out] at hwf
        exact hwf
    · obtain rfl : k = os.length := by omega
      rw [List.take_length] at HE
      go_wp2
      go_ret3
      exact ⟨p, v, _, rfl, HE.out ▸ HS.out, HE.out ▸ HRk.out, HP1.out, HV1.out, HE.out ▸ HW.out, HE.out ▸ hlk, HB.out⟩
end Go.Proofs.Ytbogfjadmiodkaa.Hand
