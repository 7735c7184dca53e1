/- The check that every law of layer 3 makes. -/
import Derived.Test.YtbfogcckbhkciaaHandPm9
import Derived.Test.YtbfogcckbhkciaaHandPmOps
import Derived.Test.YtbfogcckbhkciaaHandSame
import Derived.Deep.RegionHeld
import Derived.Lib.SlBytesConst
namespace Go.Proofs.Ytbfogcckbhkciaa.Hand
open Go.RowKit Go.Maps Go.Proofs.YtbfogcckbhkciaaW.PrintWords
set_option linter.unusedVariables false

def abD : Dev := Dev.of (List.replicate 16 0)
def abD1 : Dev := abD.write 6 [97, 98, 99, 100]
def abD2 : Dev := abD1.flush 0 8
def abD3 : Dev := abD2.fence
def abD4 : Dev := abD3.crash []
theorem ab_len : abD.B.length = 16 ∧ abD1.B.length = 16 ∧ abD2.B.length = 16 ∧ abD3.B.length = 16 ∧ abD4.B.length = 16 := by decide +kernel
theorem ab_loose1 : looseM abD1 = [0, 1] := by decide +kernel
theorem ab_loose4 : looseM abD4 = [] := by decide +kernel
theorem ab_read : cut abD4.B 6 4 = [97, 98, 0, 0] := by decide +kernel
theorem own_base {q : IntKind} {t : TypeId} {w : World} {base : Nat} {ok : Nat → Prop} {A : Option Addr} {c : Nat} {l : List Int} (h : Kd.R (Kd.int q) t w base ok (.slice A l.length c) l) : 0 < l.length → ∀ ad, A = some ad → base ≤ ad.block := by
  intro h0 ad hA
  obtain ⟨g, cap, e, hg, _⟩ := own_slice_form h h0
  simp only [Value.slice.injEq] at e
  rw [hA] at e
  have := Option.some.inj e.1
  rw [this]
  exact hg
theorem ints_own {w : World} {base : Nat} {ok : Nat → Prop} {v : Value} {xs : List Int} (h : Kd.R (Kd.int .i64) 3 w base ok v xs) : ∃ A c, v = .slice A xs.length c ∧ ReadsInt w .i64 A xs.length xs ∧ (0 < xs.length → ∀ ad, A = some ad → base ≤ ad.block) := by
  obtain ⟨A, c, rfl, hl, hc⟩ := Kd.R_reads h
  exact ⟨A, c, rfl, Kd.reads_of_C (d := (0 : Int)) hc, own_base h⟩
/-- Numbers that were told stay, whatever becomes of the device. -/
theorem reads_dev {q : IntKind} {S : Nat → Prop} {w w1 : World} {A : Option Addr} {l : List Int} {base : Nat} (hr : ReadsInt w q A l.length l) (hb : 0 < l.length → ∀ ad, A = some ad → base ≤ ad.block) (hf : Fr S w w1) (hs : ∀ b, S b → b < base) : ReadsInt w1 q A l.length l :=
  reads_frA hr hf (fun h0 ad e h1 => absurd (hs _ h1) (Nat.not_lt.2 (hb h0 ad e)))
theorem lit_reads {w : World} {k : IntKind} {l : List Int} {t : TypeId} {fr : Nat × Nat} (h : l.length ≤ 9223372036854775807) : ReadsInt (w.alloc (.cells (l.map (Value.int k)).toArray t fr)) k (some ⟨w.heap.size, 0, none⟩) l.length l := by
  refine ⟨rfl, h, fun _ => ⟨_, rfl, fun j hj => ?_⟩⟩
  rw [add_plain, Nat.zero_add]
  refine blk_cell (heap_alloc_new w _) ?_
  simp [hj]
section
variable (w : World) (p : Nat) (v : Value) (s f : Nat)
theorem ab_write (A : Option Addr) (h : HasD w p v s f abD) (hr : ReadsInt w .u8 A 4 [97, 98, 99, 100]) : Calls Try.prog 23 #[.pointer (some ⟨p, 0, none⟩), .int .i64 6, .slice A 4 4] w fun e w' => e = .returned (.int .i64 0) ∧ HasD w' p v s f abD1 ∧ Fr (OwnD v s f) w w' :=
  write_good w p v s f abD 6 A 4 4 [97, 98, 99, 100] rfl h hr (by simp [Bys]) (by decide +kernel)
theorem ab_flush (h : HasD w p v s f abD1) : Calls Try.prog 25 #[.pointer (some ⟨p, 0, none⟩), .int .i64 0, .int .i64 8] w fun e w' => e = .returned (.int .i64 0) ∧ HasD w' p v s f abD2 ∧ Fr (OwnD v s f) w w' :=
  flush_calls w p v s f abD1 0 8 h (by decide +kernel)
theorem ab_fence (h : HasD w p v s f abD2) : Calls Try.prog 24 #[.pointer (some ⟨p, 0, none⟩)] w fun e w' => e = .returned (.tuple #[]) ∧ HasD w' p v s f abD3 ∧ Fr (OwnD v s f) w w' :=
  fence_calls w p v s f abD2 h
theorem ab_crash (h : HasD w p v s f abD3) : Calls Try.prog 30 #[.pointer (some ⟨p, 0, none⟩), .slice none 0 0] w fun e w' => e = .returned (.tuple #[]) ∧ HasD w' p v s f abD4 ∧ Fr (OwnD v s f) w w' :=
  crash_calls w p v s f abD3 none 0 [] h ⟨rfl, by decide, fun h => absurd h (by decide)⟩ (fun h => absurd h (by decide))
theorem ab_reads (h : HasD w p v s f abD4) : Calls Try.prog 31 #[.pointer (some ⟨p, 0, none⟩), .int .i64 6, .int .i64 4] w fun e w' => ∃ A c, e = .returned (.tuple #[.slice A 4 c, .int .i64 0]) ∧ ReadsInt w' .u8 A 4 [97, 98, 0, 0] ∧ Below w.heap.size w w' := by
  refine (show Calls Try.prog _ #[.pointer (some ⟨p, 0, none⟩), .int .i64 6, .int .i64 4] _ _ from read_good w p v s f abD4 6 4 h (by decide +kernel)).mono ?_
  rintro e w7 ⟨u, rfl, hu, hb⟩
  rw [ab_read] at hu
  obtain ⟨A7, c7, rfl, _, hR7⟩ := reads_own2 hu
  exact ⟨A7, c7, rfl, hR7, hb⟩
theorem ab_loose (h : HasD w p v s f abD1) : Calls Try.prog 26 #[.pointer (some ⟨p, 0, none⟩)] w fun e w' => ∃ A c, e = .returned (.slice A 2 c) ∧ ReadsInt w' .i64 A 2 [0, 1] ∧ (∀ ad, A = some ad → w.heap.size ≤ ad.block) ∧ Below w.heap.size w w' := by
  refine (loose_calls w p v s f abD1 h).mono ?_
  rintro e w3 ⟨u, rfl, hu, hb⟩
  rw [ab_loose1] at hu
  obtain ⟨A3, c3, rfl, hR3, hG3⟩ := ints_own hu
  exact ⟨A3, c3, rfl, hR3, hG3 (by decide), hb⟩
theorem ab_none (h : HasD w p v s f abD4) : Calls Try.prog 26 #[.pointer (some ⟨p, 0, none⟩)] w fun e w' => ∃ A c, e = .returned (.slice A 0 c) ∧ Below w.heap.size w w' := by
  refine (loose_calls w p v s f abD4 h).mono ?_
  rintro e w3 ⟨u, rfl, hu, hb⟩
  rw [ab_loose4] at hu
  obtain ⟨A3, c3, rfl, hR3, hG3⟩ := ints_own hu
  exact ⟨A3, c3, rfl, hb⟩
theorem ab_same (A B : Option Addr) (c d : Nat) (h : ReadsInt w .i64 A 2 [0, 1]) (h2 : ReadsInt w .i64 B 2 [0, 1]) : Calls Try.prog 34 #[.slice A 2 c, .slice B 2 d] w fun e w' => e = .returned (.bool true) ∧ Below w.heap.size w w' :=
  same_calls A B c d [0, 1] [0, 1] w h h2
end
theorem dev_keep {v : Value} {s f : Nat} {w w1 : World} {base : Nat} {A : Option Addr} {l : List Int} {q : IntKind} (hr : ReadsInt w q A l.length l) (hb : ∀ ad, A = some ad → base ≤ ad.block) (hf : Fr (OwnD v s f) w w1) (hs : ∀ b, OwnD v s f b → b < base) : ReadsInt w1 q A l.length l := reads_dev hr (fun _ => hb) hf hs
set_option maxRecDepth 100000 in
theorem pm_alive (w : World) : Calls Try.prog 21 #[] w fun e w' => e = .returned (.bool true) ∧ Below w.heap.size w w' := by
  have HN := Aside0.mk (show Calls Try.prog 27 #[.int .i64 2] w (NewDev w (List.replicate 16 0)) from new_calls w 2 (by omega))
  have HSTR := Aside0.mk (show strOfNums [97, 98, 0, 0] = { data := #[97, 98, 0, 0] } by rfl)
  have kc := fun (w : World) (C : Array Value) (n c : Nat) => Lib.run_convert_bytes_const (P := Try.prog) w 23 5 C n c Try.underlying23 Try.underlying5
  go_enter Try.func21, Try.ntmps21
  go_wp2_with (first | (go_at_call 27; ((with_reducible refine HN.out.mono ?_); rintro e w1 ⟨p, v, s, f, rfl, hd1, hp1, hv1, hb1⟩; have HD1 := Aside0.mk (show HasD w1 p v s f abD from hd1); have HV := Aside0.mk hv1; have HB1 := Aside0.mk hb1; clear hd1 hp1 hv1 hb1)) | (go_at_call 23; ((with_reducible refine (ab_write _ p v s f (some ⟨w1.heap.size, 0, none⟩) (HD1.out.move (below_alloc (Below.refl _ _) _)) (lit_reads (l := [97, 98, 99, 100]) (by decide))).mono ?_); rintro e w2 ⟨rfl, hd, hf⟩; have HD2 := Aside0.mk hd; have HB2 := Aside0.mk ((below_alloc HB1.out _).trans (hf.below _ (below_alloc HB1.out _).size (fun b hb => HV.out b hb))); clear hd hf)) | (go_at_call 25; ((with_reducible refine (ab_flush _ p v s f HD3.out).mono ?_); rintro e w4 ⟨rfl, hd, hf⟩; have HD4 := Aside0.mk hd; have HB4 := Aside0.mk (HB3.out.trans (hf.below _ HB3.out.size (fun b hb => HV.out b hb))); have HL4 := Aside0.mk (dev_keep HL3.out HG.out hf (fun b hb => HD2.out.own_lt hb)); clear hd hf)) | (go_at_call 24; ((with_reducible refine (ab_fence _ p v s f HD4.out).mono ?_); rintro e w5 ⟨rfl, hd, hf⟩; have HD5 := Aside0.mk hd; have HB5 := Aside0.mk (HB4.out.trans (hf.below _ HB4.out.size (fun b hb => HV.out b hb))); have HL5 := Aside0.mk (dev_keep HL4.out HG.out hf (fun b hb => HD2.out.own_lt hb)); clear hd hf)) | (go_at_call 30; ((with_reducible refine (ab_crash _ p v s f HD5.out).mono ?_); rintro e w6 ⟨rfl, hd, hf⟩; have HD6 := Aside0.mk hd; have HB6 := Aside0.mk (HB5.out.trans (hf.below _ HB5.out.size (fun b hb => HV.out b hb))); have HL6 := Aside0.mk (dev_keep HL5.out HG.out hf (fun b hb => HD2.out.own_lt hb)); clear hd hf)) | (go_at_call 31; ((with_reducible refine (ab_reads _ p v s f HD6.out).mono ?_); rintro e w7 ⟨A7, c7, rfl, hR7, hb⟩; have HD7 := Aside0.mk (HD6.out.move hb); have HB7 := Aside0.mk (bel_step HB6.out hb); have HR7 := Aside0.mk hR7; have HL7 := Aside0.mk (HL6.out.below hb); clear hb hR7)) | (go_at_call 34; ((with_reducible refine (ab_same _ A3 (some ⟨w7.heap.size, 0, none⟩) c3 2 (HL7.out.below (below_alloc (Below.refl _ _) _)) (lit_reads (l := [0, 1]) (by decide))).mono ?_); rintro e w8 ⟨rfl, hb⟩; have HB8 := Aside0.mk (bel_step (below_alloc HB7.out _) hb); have HD8 := Aside0.mk ((HD7.out.move (below_alloc (Below.refl _ _) _)).move hb); have HR8 := Aside0.mk ((HR7.out.below (below_alloc (Below.refl _ _) _)).below hb); have hcv := conv_reads (c := c7) HR8.out; rw [HSTR.out, show ([97, 98, 0, 0] : List Int).length = 4 from rfl] at hcv; clear hb)) | (go_at_call 26; ((with_reducible refine (ab_loose _ p v s f HD2.out).mono ?_); rintro e w3 ⟨A3, c3, rfl, hR3, hG3, hb⟩; have HD3 := Aside0.mk (HD2.out.move hb); have HB3 := Aside0.mk (bel_step HB2.out hb); have HL3 := Aside0.mk hR3; have HG := Aside0.mk hG3; clear hb hR3 hG3)) | (go_at_call 26; ((with_reducible refine (ab_none _ p v s f HD8.out).mono ?_); rintro e w9 ⟨A9, c9, rfl, hb⟩; have HB9 := Aside0.mk (bel_step HB8.out hb); clear hb)))
  go_ret
  exact ⟨rfl, HB9.out⟩
end Go.Proofs.Ytbfogcckbhkciaa.Hand
