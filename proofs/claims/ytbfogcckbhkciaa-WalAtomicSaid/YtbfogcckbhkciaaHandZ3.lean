/- Devices: copies, scripts; sums of bytes. -/
import Derived.Test.YtbfogcckbhkciaaHandZ2
import Derived.Test.YtbfogcckbhkciaaHandShelfP
import Derived.Test.YtbfogcckbhkciaaHandZ1
import Derived.Deep.Slices
import Derived.ChangeSame
import Derived.Lib.SmallJoins
import Derived.OpenShut
import Derived.Deep.QuietTactic
import Derived.Deep.RegionHeld
import Derived.Lib.SlBytesConst
import Derived.Test.YtbfogcckbhkciaaProg
import Derived.WalkKit
import Derived.WalkSpells
import Derived.Below
import Derived.OwnWalk
import Derived.BigFrame
import Derived.KernelRfl
import Derived.LoopTactic
import Derived.Outline
import Derived.Test.YtbfogcckbhkciaaWWords
import Derived.Laws.BitsAllLaws
namespace Go.Proofs.Ytbfogcckbhkciaa.Hand
open Go.RowKit Go.Maps Go.Sort Go.Shelf Go.Proofs.YtbfogcckbhkciaaW.PrintWords
set_option linter.unusedVariables false

theorem sorts_int (m : Nat) : AnyZI.SortsIn Try.prog Try.sortedA_ren Fence.wide m :=
  ⟨fun blk off cap ss W hH hblk hsz => callsIn_wide.2 (AnyM.slices_Sort_int Try.sortA blk off cap ss W hH hblk hsz),
   fun p cap W => callsIn_wide.2 (AnyM.slices_Sort_int_none Try.sortA p cap W)⟩
/-- The loose words, rising. -/
def looseM (d : Dev) : List Int := ((List.range (d.B.length / 8)).filter fun k => (d.S k).isSome).map fun (k : Nat) => (k : Int)
theorem looseM_mem {d : Dev} (h : d.Ok) (x : Int) : x ∈ looseM d ↔ (safeF d.S (.int .i64 x)).isSome = true := by
  rw [looseM, List.mem_map]
  constructor
  · rintro ⟨k, hk, rfl⟩
    rw [List.mem_filter] at hk
    rw [safeF_nat, Option.isSome_map]
    exact hk.2
  · intro hx
    obtain ⟨k, e, hs⟩ := safeF_some hx
    simp only [Lit.int.injEq, true_and] at e
    refine ⟨k, List.mem_filter.2 ⟨List.mem_range.2 ?_, hs⟩, e.symm⟩
    have := h.dom k hs
    omega
theorem looseM_lt (d : Dev) : (looseM d).Pairwise (fun a b => a < b) := by
  rw [looseM, List.pairwise_map]
  refine List.Pairwise.imp ?_ (List.Pairwise.filter _ List.pairwise_lt_range)
  intro a b h
  omega
theorem looseM_sorted {d : Dev} {D : DataW Value} {w : World} {b n : Nat} (h : d.Ok) (hown : w.ownsMap Try.prog 3 heldR b n D) (hf : Fits D (safeF d.S)) {ss : List Int} (hp : ss.Perm (intKeys D)) : ss.mergeSort (fun x y => decide (x ≤ y)) = looseM d ∧ ss.length = (looseM d).length := by
  obtain ⟨es, hD, hpw, _⟩ := hown.entries law_int
  obtain ⟨es', hD', hko⟩ := hown.keysOf
  obtain rfl : es = es' := by rw [hD] at hD'; simpa using hD'
  subst hD
  have hnd : (looseM d).Nodup := (looseM_lt d).imp (fun h => by omega)
  have h1 : (looseM d).Perm (intKeys (.map es)) := perm_intKeys hpw (fun p hp => by
    obtain ⟨key, hk⟩ := hko p hp
    obtain ⟨x, _, e, _⟩ := Maps.keyOf_int_inv Try.underlying3 hk
    exact ⟨x, e⟩) hnd (fun x => by rw [looseM_mem h x, (hf _).1])
  have h2 := hp.trans h1.symm
  refine ⟨?_, h2.length_eq⟩
  rw [mergeSort_of_perm_i h2]
  exact List.mergeSort_of_pairwise ((looseM_lt d).imp (fun h => by simp only [decide_eq_true_eq]; omega))
theorem loose_calls (w : World) (p : Nat) (v : Value) (s f : Nat) (d : Dev) (h : HasD w p v s f d) :
    Calls Try.prog 26 #[.pointer (some ⟨p, 0, none⟩)] w fun e w' => ∃ u : Value, e = .returned u ∧ Kd.R (Kd.int .i64) 3 w' w.heap.size (fun _ => True) u (looseM d) ∧ Below w.heap.size w w' := by
  have c1 := blk_cell h.ptr (i := 1) rfl
  obtain ⟨D, hD, hfit⟩ := h.safe
  have hsz : Maps.size D ≤ 8192 := size_le_of_room law_int hD hfit h.ok.roomS
  refine (callsIn_wide (n := 6)).1 ?_
  have hseq : SeqGives Fence.wide 2 Try.prog 111 #[.pointer (some ⟨w.heap.size, 0, none⟩)] encZ (fun ss => ss.Perm (intKeys D)) (Maps.size D) (w.alloc (.cells #[.map (some s)] 110)) :=
    AnyZI.keys_gives (ρ := Try.keysA_ren) { Try.keysA with } Fence.wide _ trivial rfl (by omega) w.heap.size s (Maps.size D) D _ (by simp) (by simp) (hD.alloc _)
  have cK : ∀ mb W, CallsIn Fence.wide 5 Try.prog 68 #[.map mb] W fun e w' => e = .returned (.func (.func 111) #[] #[.pointer (some ⟨W.heap.size, 0, none⟩)]) ∧ w' = W.alloc (.cells #[.map mb] 110) := fun mb W => AnyZI.keys_in Try.keysA Fence.wide 5 trivial rfl mb W
  have cS := AnyZI.sorted_in Try.sortedA Fence.wide 5 trivial trivial trivial trivial rfl (by omega) (sorts_int _) (enters_of Try.func110 (by kernel_rfl) rfl) 111 #[.pointer (some ⟨w.heap.size, 0, none⟩)] trivial (enters_of Try.func111 (by kernel_rfl) rfl) _ _ (by unfold maxLen; omega) (by omega) _ hseq
  change CallsIn _ _ Try.prog 67 _ _ _ at cS
  have hfK : Fence.wide.fn 68 := trivial
  have hfS : Fence.wide.fn 67 := trivial
  refine callsIn_of_wp Try.func26 rfl trivial ?_ rfl
  simp only [Try.ntmps26, List.size_toArray, List.length_cons, List.length_nil, Nat.reduceAdd, Nat.reduceSub, Array.replicate_succ, Array.replicate_zero, List.push_toArray, List.append_toArray, List.nil_append, List.cons_append]
  have HD := Aside0.mk hD
  have HFIT := Aside0.mk hfit
  have HOK := Aside0.mk h.ok
  clear h hD hfit hseq hsz
  gi_wp2_with (first | (gi_at_call 68; refine (cK _ _).mono ?_; rintro e w' ⟨rfl, rfl⟩) | (gi_at_call 67; refine cS.mono ?_; rintro e w' ⟨u, ss, rfl, hS, hrow, hnil, hb⟩))
  go_ret
  obtain ⟨h1, h2⟩ := looseM_sorted HOK.out HD.out HFIT.out hS
  rw [h1, h2] at hrow
  refine ⟨u, rfl, Kd.R_of_own (ownsRow_base_a hrow (by simp)) (fun _ _ => trivial), ?_⟩
  exact ((Below.refl _ w).alloc (Nat.le_refl _) _).trans (hb.mono (by simp))
/-- slices.Clone of a device's maps. -/
theorem cloneS_calls (w : World) (s : Nat) (S : Nat → Option (List Int)) (h : MapF Try.prog 3 w s (safeF S)) :
    Calls Try.prog 70 #[.map (some s)] w fun e w' => e = .returned (.map (some w.heap.size)) ∧ MapF Try.prog 3 w' w.heap.size (safeF S) ∧ Below w.heap.size w w' := by
  obtain ⟨D, hD, hfit⟩ := h
  have hcon := AnyW.maps_Clone_owns Try.cloneA 3 heldR s _ D w hD
  change Calls Try.prog 70 _ _ _ at hcon
  refine hcon.mono ?_
  rintro e w' ⟨rfl, h1, _, hB⟩
  exact ⟨rfl, MapF.of_own h1 hfit, hB⟩
theorem cloneF_calls (w : World) (s : Nat) (S : Nat → Bool) (h : MapF Try.prog 3 w s (flF S)) :
    Calls Try.prog 71 #[.map (some s)] w fun e w' => e = .returned (.map (some w.heap.size)) ∧ MapF Try.prog 3 w' w.heap.size (flF S) ∧ Below w.heap.size w w' := by
  obtain ⟨D, hD, hfit⟩ := h
  have hcon := AnyW.maps_Clone_owns Try.cloneB 3 heldR s _ D w hD
  change Calls Try.prog 71 _ _ _ at hcon
  refine hcon.mono ?_
  rintro e w' ⟨rfl, h1, _, hB⟩
  exact ⟨rfl, MapF.of_own h1 hfit, hB⟩
end Go.Proofs.Ytbfogcckbhkciaa.Hand
namespace Go.Proofs.Ytbfogcckbhkciaa.Hand
open Go.RowKit Go.Maps Go.Proofs.YtbfogcckbhkciaaW.PrintWords
set_option linter.unusedVariables false

theorem bel_cell {w w1 : World} (h : Below w.heap.size w w1) {a : Addr} {v : Value} (hc : w.cell? a = some v) : w1.cell? a = some v := (h.cell (World.block_lt_of_cell? _ _ hc)).trans hc
theorem info_dev : (Try.prog.info? 113).map (fun i => i.size) = some 3 := by kernel_rfl
set_option maxRecDepth 100000 in
theorem copy_calls (w : World) (p : Nat) (v : Value) (s f : Nat) (d : Dev) (h : HasD w p v s f d) :
    Calls Try.prog 29 #[.pointer (some ⟨p, 0, none⟩)] w fun e w' => ∃ (q : Nat) (u : Value) (s' f' : Nat), e = .returned (.pointer (some ⟨q, 0, none⟩)) ∧ HasD w' q u s' f' d ∧ w.heap.size ≤ q ∧ (∀ b, OwnD u s' f' b → w.heap.size ≤ b) ∧ Below w.heap.size w w' := by
  have HH := Aside0.mk h
  obtain ⟨A, c, rfl, hc, hr⟩ := h.reads
  have HR := Aside0.mk (show ReadsInt w.drew .u8 A d.B.length d.B from hr)
  have hm := h.ok.max
  have HSd := Aside0.mk (h.move (Below.refl w.heap.size w).drew)
  have b0 : w.cell? ⟨p, 0, none⟩ = some (.slice A d.B.length c) := blk_cell h.ptr (i := 0) rfl
  have b1 : w.cell? ⟨p, 1, none⟩ = some (.map (some s)) := blk_cell h.ptr (i := 1) rfl
  have b2 : w.cell? ⟨p, 2, none⟩ = some (.map (some f)) := blk_cell h.ptr (i := 2) rfl
  have b0d : w.drew.cell? ⟨p, 0, none⟩ = some (.slice A d.B.length c) := b0
  have b1d : w.drew.cell? ⟨p, 1, none⟩ = some (.map (some s)) := b1
  have b2d : w.drew.cell? ⟨p, 2, none⟩ = some (.map (some f)) := b2
  clear h hr
  go_enter Try.func29, Try.ntmps29
  go_wp2_with fail
  go_region_held (fun w' => w'.cell? ⟨p, 0, none⟩ = some (.slice A d.B.length c) ∧ w'.cell? ⟨p, 1, none⟩ = some (.map (some s)) ∧ w'.cell? ⟨p, 2, none⟩ = some (.map (some f))) (go_keep) (first | (go_at_call 61; (with_reducible refine (clone_bytes A c d.B w.drew HR.out (by omega)).mono ?_); rintro e w2 ⟨u, rfl, hu, hb2⟩; obtain ⟨A2, c2, rfl, _, _⟩ := reads_own2 hu; have HU2 := Aside0.mk hu; have HB2 := Aside0.mk (bel_step (Below.refl w.heap.size w).drew hb2); have HS2 := Aside0.mk (HSd.out.move hb2); have e0 := bel_cell hb2 b0d; have e1 := bel_cell hb2 b1d; have e2 := bel_cell hb2 b2d; clear hu hb2) | (go_at_call 70; (with_reducible refine (cloneS_calls w2 s d.S HS2.out.safe).mono ?_); rintro e w3 ⟨rfl, hm3, hb3⟩; have HM3 := Aside0.mk hm3; have HB3 := Aside0.mk hb3; have HS3 := Aside0.mk (HS2.out.move hb3); have i0 := bel_cell hb3 e0; have i1 := bel_cell hb3 e1; have i2 := bel_cell hb3 e2; clear hm3 hb3) | (go_at_call 71; (with_reducible refine (cloneF_calls w3 f d.F HS3.out.fl).mono ?_); rintro e w4 ⟨rfl, hm4, hb4⟩; have HM4 := Aside0.mk hm4; have HB4 := Aside0.mk hb4; have j0 := bel_cell hb4 i0; have j1 := bel_cell hb4 i1; have j2 := bel_cell hb4 i2; clear hm4 hb4))
  go_wp2
  go_ret
  have hb4a := below_alloc (Below.refl w4.heap.size w4) (.cells #[Value.slice A2 d.B.length c2, Value.map (some w2.heap.size), Value.map (some w3.heap.size)] 113)
  have hz23 : w2.heap.size < w3.heap.size := HM3.out.lt
  have hz34 : w3.heap.size < w4.heap.size := HM4.out.lt
  have hu4 := Kd.R_below (Kd.R_below (Kd.R_below HU2.out HB3.out) HB4.out) hb4a
  have hul : ∀ b, some b = (Value.slice A2 d.B.length c2).ownBlock → w.heap.size ≤ b ∧ b < w2.heap.size := fun b hb => by
    obtain ⟨cs, t, fr, hc⟩ := own_blk HU2.out hb
    refine ⟨?_, blk_lt hc⟩
    have := Kd.own_of_R HU2.out
    rcases this.2 with ⟨e, _⟩ | ⟨g, cap', cur, e, hbase, _⟩
    · rw [e] at hb; simp [Value.ownBlock] at hb
    · rw [e] at hb
      simp only [Value.ownBlock, Option.some.injEq] at hb
      rw [hb]
      exact hbase
  refine ⟨w4.heap.size, _, w2.heap.size, w3.heap.size, rfl, ⟨heap_alloc_new _ _, ?_, (HM3.out.below HB4.out).below hb4a, HM4.out.below hb4a, by omega, HH.out.ok⟩, ?_, ?_, ?_⟩
  · refine Kd.R_of_own (ownsRow_base_a (Kd.own_of_R hu4) (Nat.zero_le _)) (fun k hk => ?_)
    have := (hul k hk.symm).2
    omega
  · have := HB2.out.size
    omega
  · have := HB2.out.size
    rintro b (hb | rfl | rfl)
    · exact (hul b hb).1
    · omega
    · omega
  · exact bel_step (bel_step (bel_step HB2.out HB3.out) HB4.out) hb4a
/-- A new device: nothing is loose. -/
def Dev.of (B : List Int) : Dev := { B := B, S := fun _ => none, F := fun _ => false }
theorem Dev.Ok.of {B : List Int} (h1 : B.length % 8 = 0) (h2 : B.length ≤ 65536) (h3 : Bys B) : (Dev.of B).Ok := ⟨h1, h2, h3, fun k h => (by cases h), fun k c h => (by cases h), fun k h => (by cases h)⟩
theorem safeF_none (kl : Lit) : safeF (fun _ => none) kl = none := by
  unfold safeF
  split
  · split <;> rfl
  · rfl
theorem flF_none (kl : Lit) : flF (fun _ => false) kl = none := by
  unfold flF
  split
  · simp
  · rfl
/-- What New and Of leave: a device of these bytes. -/
def NewDev (w : World) (B : List Int) (e : Ending) (w' : World) : Prop :=
  ∃ (q : Nat) (u : Value) (s f : Nat), e = .returned (.tuple #[.pointer (some ⟨q, 0, none⟩), .int .i64 0]) ∧ HasD w' q u s f (Dev.of B) ∧ w.heap.size ≤ q ∧ (∀ b, OwnD u s f b → w.heap.size ≤ b) ∧ Below w.heap.size w w'
set_option maxRecDepth 100000 in
theorem of_calls (w : World) (A : Option Addr) (c : Nat) (B : List Int) (hr : ReadsInt w .u8 A B.length B) (hb : Bys B) (h1 : B.length % 8 = 0) (h2 : B.length ≤ 65536) :
    Calls Try.prog 69 #[.slice A B.length c] w (NewDev w B) := by
  have HR := Aside0.mk hr
  have HBY := Aside0.mk hb
  have H1 := Aside0.mk h1
  have h3 : ((B.length : Int) % 8 != 0) = false := by simp; omega
  have hmm := @run_makeMap Try.prog
  have HL := Aside0.mk h2
  clear hr hb h1
  go_enter Try.func69, Try.ntmps69
  go_wp2_with (at_builtin; refine Kd.R_append_row (Value.int .u8) 0 (h1 := fun _ => rfl) (w0 := w) w.heap.size rfl (.tmp 13) (.tmp 14) 23 5 (.int .u8 0) 1 rfl Try.underlying23 info_u8 rfl (by decide) (.slice (some ⟨w.heap.size, 0, none⟩) 0 0) [] B A B.length c (fun _ => True) rfl rfl (fun _ _ => trivial) ?c1 ?c2 ?c3 ?c4 ?c5 ?_)
  case c1 => exact Kd.R_of_own (World.ownsRow_made w #[] 0 (Nat.le_refl _) (Nat.zero_le _) rfl) (fun _ _ => trivial)
  case c2 => exact Kd.C_below (d := Kd.int .u8) (Kd.C_of_reads (d := (0 : Int)) (h1 := fun _ => rfl) HR.out) (below_alloc (Below.refl _ _) _)
  case c3 => exact below_alloc (Below.refl _ _) _
  case c4 => simp
  case c5 => have := HL.out; simp; omega
  intro v1 w1 ho hb1 hg1 hat
  have ho' : Kd.R (Kd.int .u8) 5 w1 w.heap.size (fun _ => True) v1 B := ho
  obtain ⟨A2, c2, rfl, _, _⟩ := reads_own2 ho'
  have HO := Aside0.mk ho'
  have HB1 := Aside0.mk hb1
  clear ho ho' hb1 hg1 hat h3
  go_wp2
  go_ret2
  have hba := ((Below.refl w1.heap.size w1).alloc (Nat.le_refl _) (.map #[] 0)).alloc (by simp) (.map #[] 0)
  have hbb : Below w1.heap.size w1 (((w1.alloc (.map #[] 0)).alloc (.map #[] 0)).alloc (.cells #[Value.slice A2 B.length c2, Value.map (some w1.heap.size), Value.map (some (w1.heap.size + 1))] 113)) := hba.alloc (by simp; omega) _
  have hul : ∀ b, some b = (Value.slice A2 B.length c2).ownBlock → w.heap.size ≤ b ∧ b < w1.heap.size := fun b hb => by
    obtain ⟨cs, t, fr, hc⟩ := own_blk HO.out hb
    refine ⟨?_, blk_lt hc⟩
    have := Kd.own_of_R HO.out
    rcases this.2 with ⟨e, _⟩ | ⟨g, cap', cur, e, hbase, _⟩
    · rw [e] at hb; simp [Value.ownBlock] at hb
    · rw [e] at hb
      simp only [Value.ownBlock, Option.some.injEq] at hb
      rw [hb]
      exact hbase
  have hsz := HB1.out.size
  refine ⟨w1.heap.size + 1 + 1, _, w1.heap.size, w1.heap.size + 1, ?_, ⟨alloc_three _ _ _ _, ?_, ?_, ?_, by omega, Dev.Ok.of H1.out HL.out HBY.out⟩, by omega, ?_, bel_step HB1.out hbb⟩
  · simp
  · refine Kd.R_of_own (ownsRow_base_a (Kd.own_of_R (Kd.R_below HO.out hbb)) (Nat.zero_le _)) (fun k hk => ?_)
    have := (hul k hk.symm).2
    omega
  · refine (((MapF.made w1).below (below_alloc (Below.refl _ _) _)).below (below_alloc (Below.refl _ _) _)).congr (fun kl => (safeF_none kl).symm)
  · have := MapF.made (P := Try.prog) (k := 3) (w1.alloc (.map #[] 0))
    rw [World.size_alloc] at this
    exact (this.below (below_alloc (Below.refl _ _) _)).congr (fun kl => (flF_none kl).symm)
  · rintro b (hb | rfl | rfl)
    · exact (hul b hb).1
    · omega
    · omega
theorem of_bad (w : World) (A : Option Addr) (n c : Nat) (h : n % 8 ≠ 0 ∨ 65536 < n) :
    Calls Try.prog 69 #[.slice A n c] w fun e w' => e = .returned (.tuple #[.pointer none, .int .i64 1]) ∧ Below w.heap.size w w' := by
  by_cases h1 : n % 8 = 0
  · have h2 : ((n : Int) % 8 != 0) = false := by simp; omega
    have h3 : 65536 < n := by omega
    clear h h1
    go_enter Try.func69, Try.ntmps69
    go_wp2
    go_ret2
    exact ⟨rfl, Below.refl _ _⟩
  · have h2 : ((n : Int) % 8 != 0) = true := by simp; omega
    clear h h1
    go_enter Try.func69, Try.ntmps69
    go_wp2
    go_ret2
    exact ⟨rfl, Below.refl _ _⟩
theorem new_bad (w : World) (n : Int) (h : n < 0 ∨ 8192 < n) :
    Calls Try.prog 27 #[.int .i64 n] w fun e w' => e = .returned (.tuple #[.pointer none, .int .i64 1]) ∧ Below w.heap.size w w' := by
  rcases h with h | h
  · go_enter Try.func27, Try.ntmps27
    go_wp2
    go_ret2
    exact ⟨rfl, Below.refl _ _⟩
  · go_enter Try.func27, Try.ntmps27
    go_wp2
    go_ret2
    exact ⟨rfl, Below.refl _ _⟩
theorem zeros_reads (w : World) (m : Nat) (hm : m ≤ 9223372036854775807) : ReadsInt (w.alloc (.cells (madeCells #[.int .u8 0] m) 5)) .u8 (some ⟨w.heap.size, 0, none⟩) m (List.replicate m 0) := by
  refine ⟨by simp, hm, fun _ => ⟨_, rfl, fun j hj => ?_⟩⟩
  rw [add_plain, Nat.zero_add]
  have hn := heap_alloc_new w (.cells (madeCells #[.int .u8 0] m) 5)
  refine blk_cell hn ?_
  rw [List.getD_eq_getElem?_getD, List.getElem?_replicate, if_pos hj]
  simp [madeCells, hj, Nat.mod_one]
theorem NewDev.from {w w1 : World} {B : List Int} {e : Ending} {w' : World} (h : NewDev w1 B e w') (hb : Below w.heap.size w w1) : NewDev w B e w' := by
  obtain ⟨q, u, s, f, he, hd, hq, ho, hb2⟩ := h
  exact ⟨q, u, s, f, he, hd, Nat.le_trans hb.size hq, fun b hb' => Nat.le_trans hb.size (ho b hb'), bel_step hb hb2⟩
theorem zeros_bys (m : Nat) : Bys (List.replicate m 0) := fun x hx => by
  rw [List.eq_of_mem_replicate hx]
  omega
set_option maxRecDepth 100000 in
theorem new_calls (w : World) (n : Nat) (h : n ≤ 8192) :
    Calls Try.prog 27 #[.int .i64 n] w (NewDev w (List.replicate (8 * n) 0)) := by
  have km := print_make_int (P := Try.prog) 23 5 (.int .u8 0) 1 Try.underlying23 info_u8 rfl (by decide) ((n : Int) * 8) (by omega) (by omega)
  rw [show ((n : Int) * 8).toNat = 8 * n by omega] at km
  have HZ := Aside0.mk (zeros_reads w (8 * n) (by omega))
  have HL := Aside0.mk (show (List.replicate (8 * n) (0 : Int)).length = 8 * n by simp)
  go_enter Try.func27, Try.ntmps27
  go_wp2_with (go_at_call 69; have hof := of_calls (w.alloc (.cells (madeCells #[.int .u8 0] (8 * n)) 5)) (some ⟨w.heap.size, 0, none⟩) (8 * n) (List.replicate (8 * n) 0) (by rw [HL.out]; exact HZ.out) (zeros_bys _) (by rw [HL.out]; omega) (by rw [HL.out]; omega); rw [HL.out] at hof; (with_reducible refine hof.mono ?_); intro e w2 hN; replace hN := hN.from (below_alloc (Below.refl w.heap.size w) _); obtain ⟨q, u, s, f, rfl, hN⟩ := hN; clear hof)
  go_ret2
  exact ⟨q, u, s, f, rfl, hN⟩
end Go.Proofs.Ytbfogcckbhkciaa.Hand
namespace Go.Proofs.Ytbfogcckbhkciaa.Hand
open Go.RowKit Go.Maps Go.Proofs.YtbfogcckbhkciaaW.PrintWords
set_option linter.unusedVariables false

/-- A call, as it stands in an argument. -/
structure OpP where
  z : Int
  at_ : Int
  long : Int
  A1 : Option Addr
  c1 : Nat
  bs : List Int
  A2 : Option Addr
  c2 : Nat
  ks : List Int
def encPo (x : OpP) : List Value := [.int .i64 x.z, .int .i64 x.at_, .int .i64 x.long, .slice x.A1 x.bs.length x.c1, .slice x.A2 x.ks.length x.c2]
theorem encPo_len (x : OpP) : (encPo x).length = 5 := rfl
theorem encPo_one (x : OpP) : ∀ u ∈ encPo x, u.oneCell' = true := by
  intro u hu
  simp only [encPo, List.mem_cons, List.not_mem_nil, or_false] at hu
  rcases hu with rfl | rfl | rfl | rfl | rfl <;> rfl
def PoK : Kd OpP := flat encPo 5 encPo_len encPo_one
structure WfPo (w : World) (x : OpP) : Prop where
  rb : ReadsInt w .u8 x.A1 x.bs.length x.bs
  by_ : Bys x.bs
  cb : x.bs.length ≤ x.c1
  rk : ReadsInt w .i64 x.A2 x.ks.length x.ks
  hz : -9223372036854775808 ≤ x.z ∧ x.z ≤ 9223372036854775807
  ha : -9223372036854775808 ≤ x.at_ ∧ x.at_ ≤ 9223372036854775807
  hl : -9223372036854775808 ≤ x.long ∧ x.long ≤ 9223372036854775807
/-- What a call makes of a device. -/
def stepD (d : Dev) (x : OpP) : Dev :=
  if x.z = 0 then (if insE d.B.length x.at_ x.bs.length = 0 then d.write x.at_.toNat x.bs else d)
  else if x.z = 2 then (if insE d.B.length x.at_ x.long = 0 then d.flush x.at_.toNat x.long.toNat else d)
  else if x.z = 3 then d.fence
  else if x.z = 4 then d.crash x.ks
  else d
def runD (d : Dev) (os : List OpP) : Dev := os.foldl stepD d
theorem Dev.Ok.write {d : Dev} (h : d.Ok) {a : Nat} {l : List Int} (hl : Bys l) (hin : a + l.length ≤ d.B.length) : (d.write a l).Ok := by
  have hw : (d.hitW a l.length).Ok := by
    refine ⟨h.len, h.max, h.bys, fun j hj => ?_, fun j c hj => ?_, fun j hj => ?_⟩
    · simp only [Dev.hitW] at hj
      split at hj
      · rename_i hh
        have := h.len
        simp only [hitB, decide_eq_true_eq] at hh
        show 8 * j + 8 ≤ d.B.length
        omega
      · exact h.dom j hj
    · simp only [Dev.hitW] at hj
      split at hj
      · rename_i hh
        simp only [hitB, decide_eq_true_eq] at hh
        have hl8 := h.len
        simp only [Option.some.injEq] at hj
        cases hs : d.S j with
        | some c' =>
          rw [hs] at hj
          obtain rfl : c' = c := hj
          exact h.safe j c' hs
        | none =>
          rw [hs] at hj
          obtain rfl : word d.B j = c := hj
          exact ⟨word_length (by omega), word_bys h.bys j⟩
      · exact h.safe j c hj
    · simp only [Dev.hitW, Bool.and_eq_true, Bool.not_eq_true'] at hj ⊢
      rw [if_neg (by rw [hj.2]; simp)]
      exact h.sub j hj.1
  exact hw.setB (B := d.B.take a ++ (l ++ d.B.drop (a + l.length))) (splice_length hin) (splice_bys h.bys hl)
theorem Dev.Ok.flush {d : Dev} (h : d.Ok) (a n : Nat) : (d.flush a n).Ok := by
  refine ⟨h.len, h.max, h.bys, h.dom, h.safe, fun j hj => ?_⟩
  simp only [Dev.flush, Bool.or_eq_true, Bool.and_eq_true] at hj ⊢
  rcases hj with hj | hj
  · exact h.sub j hj
  · exact hj.2
theorem stepD_len {d : Dev} (h : d.Ok) (x : OpP) : (stepD d x).B.length = d.B.length := by
  unfold stepD
  split
  · split
    · rename_i hi
      obtain ⟨h1, h2, h3⟩ := ins_ok hi
      exact splice_length (by omega)
    · rfl
  · split
    · split <;> rfl
    · split
      · rfl
      · split
        · exact crash_length h _
        · rfl
theorem stepD_ok {d : Dev} (h : d.Ok) {w : World} {x : OpP} (hx : WfPo w x) : (stepD d x).Ok := by
  unfold stepD
  split
  · split
    · rename_i hi
      obtain ⟨h1, h2, h3⟩ := ins_ok hi
      exact h.write hx.by_ (by omega)
    · exact h
  · split
    · split
      · exact h.flush _ _
      · exact h
    · split
      · exact h.fence
      · split
        · exact h.crash _
        · exact h
theorem conv_nil (w : World) : (convert 23 9 (.slice none 0 0)).run Try.prog w = .ok (.string (strOfNums [])) w :=
  conv_reads (w := w) (A := none) (c := 0) (xs := []) ⟨rfl, by simp, fun h => absurd h (by simp)⟩
/-- What a call on a device leaves. -/
def DoesD (w : World) (p : Nat) (v : Value) (s f : Nat) (d : Dev) (e : Ending) (w' : World) : Prop :=
  ∃ (t : ByteArray) (n : Int), e = .returned (.tuple #[.string t, .int .i64 n]) ∧ HasD w' p v s f d ∧ Fr (OwnD v s f) w w'
set_option maxRecDepth 100000 in
theorem does3_write (w : World) (p : Nat) (v : Value) (s f : Nat) (d : Dev) (z a long : Int) (A1 : Option Addr) (c1 : Nat) (bs : List Int) (A2 : Option Addr) (c2 : Nat) (ks : List Int) (h : HasD w p v s f d) (hw : WfPo w ⟨z, a, long, A1, c1, bs, A2, c2, ks⟩) (hz : z = 0) :
    Calls Try.prog 33 #[.pointer (some ⟨p, 0, none⟩), .agg #[.int .i64 z, .int .i64 a, .int .i64 long, .slice A1 bs.length c1, .slice A2 ks.length c2]] w (DoesD w p v s f (stepD d ⟨z, a, long, A1, c1, bs, A2, c2, ks⟩)) := by
  have HH := Aside0.mk h
  have HW := Aside0.mk hw
  subst hz
  by_cases he : insE d.B.length a bs.length = 0
  · obtain ⟨_, h2, h3⟩ := ins_ok he
    obtain ⟨a, rfl⟩ := Int.eq_ofNat_of_zero_le h2
    have HE := Aside0.mk he
    have HST := Aside0.mk (show stepD d ⟨0, (a : Int), long, A1, c1, bs, A2, c2, ks⟩ = d.write a bs by simp only [stepD]; rw [if_pos trivial, if_pos he, Int.toNat_natCast])
    rw [HST.out]
    clear h hw he
    go_enter Try.func33, Try.ntmps33
    go_wp2_with (go_at_call 23; (with_reducible refine (write_good _ p v s f d a A1 bs.length c1 bs rfl (HH.out.move (below_alloc (Below.refl _ _) _)) (HW.out.rb.below (below_alloc (Below.refl _ _) _)) HW.out.by_ HE.out).mono ?_); rintro e w2 ⟨rfl, hs2, hf2⟩; have HS2 := Aside0.mk hs2; have HF2 := Aside0.mk hf2; clear hs2 hf2)
    go_ret2
    exact ⟨_, _, rfl, HS2.out, ((Fr.refl _ _).alloc _).trans' HF2.out⟩
  · have HE := Aside0.mk he
    have HST := Aside0.mk (show stepD d ⟨0, a, long, A1, c1, bs, A2, c2, ks⟩ = d by simp only [stepD]; rw [if_pos trivial, if_neg he])
    rw [HST.out]
    have hln := hw.rb.2.1
    simp only at hln
    clear h hw he
    go_enter Try.func33, Try.ntmps33
    go_wp2_with (go_at_call 23; (with_reducible refine (write_bad _ p v s f d a A1 bs.length c1 (HH.out.move (below_alloc (Below.refl _ _) _)) hln HE.out).mono ?_); rintro e w2 ⟨rfl, hb2⟩; have HB2 := Aside0.mk hb2; clear hb2)
    go_ret2
    exact ⟨_, _, rfl, (HH.out.move (below_alloc (Below.refl _ _) _)).move HB2.out, (Fr.of_below ((below_alloc (Below.refl w.heap.size w) _).trans (HB2.out.mono (by simp))) _)⟩
set_option maxRecDepth 100000 in
theorem does3_read (w : World) (p : Nat) (v : Value) (s f : Nat) (d : Dev) (z a long : Int) (A1 : Option Addr) (c1 : Nat) (bs : List Int) (A2 : Option Addr) (c2 : Nat) (ks : List Int) (h : HasD w p v s f d) (hw : WfPo w ⟨z, a, long, A1, c1, bs, A2, c2, ks⟩) (hz : z = 1) :
    Calls Try.prog 33 #[.pointer (some ⟨p, 0, none⟩), .agg #[.int .i64 z, .int .i64 a, .int .i64 long, .slice A1 bs.length c1, .slice A2 ks.length c2]] w (DoesD w p v s f (stepD d ⟨z, a, long, A1, c1, bs, A2, c2, ks⟩)) := by
  have HH := Aside0.mk h
  subst hz
  have HST := Aside0.mk (show stepD d ⟨1, a, long, A1, c1, bs, A2, c2, ks⟩ = d by simp [stepD])
  rw [HST.out]
  have hm := h.ok.max
  by_cases he : insE d.B.length a long = 0
  · obtain ⟨h1, h2, h3⟩ := ins_ok he
    obtain ⟨a, rfl⟩ := Int.eq_ofNat_of_zero_le h2
    obtain ⟨long, rfl⟩ := Int.eq_ofNat_of_zero_le h1
    have HE := Aside0.mk he
    clear h hw he
    go_enter Try.func33, Try.ntmps33
    go_wp2_with (go_at_call 31; (with_reducible refine (read_good _ p v s f d a long (HH.out.move (below_alloc (Below.refl _ _) _)) HE.out).mono ?_); rintro e w2 ⟨u, rfl, hu, hb2⟩; have HB2 := Aside0.mk hb2; have hcv := conv_own hu; clear hb2)
    go_ret2
    exact ⟨_, _, rfl, (HH.out.move (below_alloc (Below.refl _ _) _)).move HB2.out, (Fr.of_below ((below_alloc (Below.refl w.heap.size w) _).trans (HB2.out.mono (by simp))) _)⟩
  · have HE := Aside0.mk he
    clear h hw he
    go_enter Try.func33, Try.ntmps33
    go_wp2_with (go_at_call 31; (with_reducible refine (read_bad _ p v s f d a long (HH.out.move (below_alloc (Below.refl _ _) _)) HE.out).mono ?_); rintro e w2 ⟨rfl, hb2⟩; have HB2 := Aside0.mk hb2; have hcv := conv_nil w2; clear hb2)
    go_ret2
    exact ⟨_, _, rfl, (HH.out.move (below_alloc (Below.refl _ _) _)).move HB2.out, (Fr.of_below ((below_alloc (Below.refl w.heap.size w) _).trans (HB2.out.mono (by simp))) _)⟩
set_option maxRecDepth 100000 in
theorem does3_flush (w : World) (p : Nat) (v : Value) (s f : Nat) (d : Dev) (z a long : Int) (A1 : Option Addr) (c1 : Nat) (bs : List Int) (A2 : Option Addr) (c2 : Nat) (ks : List Int) (h : HasD w p v s f d) (hw : WfPo w ⟨z, a, long, A1, c1, bs, A2, c2, ks⟩) (hz : z = 2) :
    Calls Try.prog 33 #[.pointer (some ⟨p, 0, none⟩), .agg #[.int .i64 z, .int .i64 a, .int .i64 long, .slice A1 bs.length c1, .slice A2 ks.length c2]] w (DoesD w p v s f (stepD d ⟨z, a, long, A1, c1, bs, A2, c2, ks⟩)) := by
  have HH := Aside0.mk h
  subst hz
  by_cases he : insE d.B.length a long = 0
  · obtain ⟨h1, h2, h3⟩ := ins_ok he
    obtain ⟨a, rfl⟩ := Int.eq_ofNat_of_zero_le h2
    obtain ⟨long, rfl⟩ := Int.eq_ofNat_of_zero_le h1
    have HE := Aside0.mk he
    have HST := Aside0.mk (show stepD d ⟨2, (a : Int), (long : Int), A1, c1, bs, A2, c2, ks⟩ = d.flush a long by simp only [stepD]; rw [if_neg (by decide), if_pos trivial, if_pos he, Int.toNat_natCast, Int.toNat_natCast])
    rw [HST.out]
    clear h hw he
    go_enter Try.func33, Try.ntmps33
    go_wp2_with (go_at_call 25; (with_reducible refine (flush_calls _ p v s f d a long (HH.out.move (below_alloc (Below.refl _ _) _)) HE.out).mono ?_); rintro e w2 ⟨rfl, hs2, hf2⟩; have HS2 := Aside0.mk hs2; have HF2 := Aside0.mk hf2; clear hs2 hf2)
    go_ret2
    exact ⟨_, _, rfl, HS2.out, ((Fr.refl _ _).alloc _).trans' HF2.out⟩
  · have HE := Aside0.mk he
    have HST := Aside0.mk (show stepD d ⟨2, a, long, A1, c1, bs, A2, c2, ks⟩ = d by simp only [stepD]; rw [if_neg (by decide), if_pos trivial, if_neg he])
    rw [HST.out]
    clear h hw he
    go_enter Try.func33, Try.ntmps33
    go_wp2_with (go_at_call 25; (with_reducible refine (flush_bad _ p v s f d a long (HH.out.move (below_alloc (Below.refl _ _) _)) HE.out).mono ?_); rintro e w2 ⟨rfl, hb2⟩; have HB2 := Aside0.mk hb2; clear hb2)
    go_ret2
    exact ⟨_, _, rfl, (HH.out.move (below_alloc (Below.refl _ _) _)).move HB2.out, (Fr.of_below ((below_alloc (Below.refl w.heap.size w) _).trans (HB2.out.mono (by simp))) _)⟩
set_option maxRecDepth 100000 in
theorem does3_fence (w : World) (p : Nat) (v : Value) (s f : Nat) (d : Dev) (z a long : Int) (A1 : Option Addr) (c1 : Nat) (bs : List Int) (A2 : Option Addr) (c2 : Nat) (ks : List Int) (h : HasD w p v s f d) (hw : WfPo w ⟨z, a, long, A1, c1, bs, A2, c2, ks⟩) (hz : z = 3) :
    Calls Try.prog 33 #[.pointer (some ⟨p, 0, none⟩), .agg #[.int .i64 z, .int .i64 a, .int .i64 long, .slice A1 bs.length c1, .slice A2 ks.length c2]] w (DoesD w p v s f (stepD d ⟨z, a, long, A1, c1, bs, A2, c2, ks⟩)) := by
  have HH := Aside0.mk h
  subst hz
  have HST := Aside0.mk (show stepD d ⟨3, a, long, A1, c1, bs, A2, c2, ks⟩ = d.fence by simp [stepD])
  rw [HST.out]
  clear h hw
  go_enter Try.func33, Try.ntmps33
  go_wp2_with (go_at_call 24; (with_reducible refine (fence_calls _ p v s f d (HH.out.move (below_alloc (Below.refl _ _) _))).mono ?_); rintro e w2 ⟨rfl, hs2, hf2⟩; have HS2 := Aside0.mk hs2; have HF2 := Aside0.mk hf2; clear hs2 hf2)
  go_ret2
  exact ⟨_, _, rfl, HS2.out, ((Fr.refl _ _).alloc _).trans' HF2.out⟩
set_option maxRecDepth 100000 in
theorem does3_crash (w : World) (p : Nat) (v : Value) (s f : Nat) (d : Dev) (z a long : Int) (A1 : Option Addr) (c1 : Nat) (bs : List Int) (A2 : Option Addr) (c2 : Nat) (ks : List Int) (h : HasD w p v s f d) (hw : WfPo w ⟨z, a, long, A1, c1, bs, A2, c2, ks⟩) (hk : 0 < ks.length → ∀ ad, A2 = some ad → ¬ some ad.block = v.ownBlock) (hz : z = 4) :
    Calls Try.prog 33 #[.pointer (some ⟨p, 0, none⟩), .agg #[.int .i64 z, .int .i64 a, .int .i64 long, .slice A1 bs.length c1, .slice A2 ks.length c2]] w (DoesD w p v s f (stepD d ⟨z, a, long, A1, c1, bs, A2, c2, ks⟩)) := by
  have HH := Aside0.mk h
  have HW := Aside0.mk hw
  subst hz
  have HST := Aside0.mk (show stepD d ⟨4, a, long, A1, c1, bs, A2, c2, ks⟩ = d.crash ks by simp [stepD])
  rw [HST.out]
  clear h hw
  go_enter Try.func33, Try.ntmps33
  go_wp2_with (go_at_call 30; (with_reducible refine (crash_calls _ p v s f d A2 c2 ks (HH.out.move (below_alloc (Below.refl _ _) _)) (HW.out.rk.below (below_alloc (Below.refl _ _) _)) hk).mono ?_); rintro e w2 ⟨rfl, hs2, hf2⟩; have HS2 := Aside0.mk hs2; have HF2 := Aside0.mk hf2; clear hs2 hf2)
  go_ret2
  exact ⟨_, _, rfl, HS2.out, ((Fr.refl _ _).alloc _).trans' HF2.out⟩
set_option maxRecDepth 100000 in
theorem does3_low (w : World) (p : Nat) (v : Value) (s f : Nat) (d : Dev) (z a long : Int) (A1 : Option Addr) (c1 : Nat) (bs : List Int) (A2 : Option Addr) (c2 : Nat) (ks : List Int) (h : HasD w p v s f d) (hw : WfPo w ⟨z, a, long, A1, c1, bs, A2, c2, ks⟩) (hz : z < 0) :
    Calls Try.prog 33 #[.pointer (some ⟨p, 0, none⟩), .agg #[.int .i64 z, .int .i64 a, .int .i64 long, .slice A1 bs.length c1, .slice A2 ks.length c2]] w (DoesD w p v s f (stepD d ⟨z, a, long, A1, c1, bs, A2, c2, ks⟩)) := by
  have HH := Aside0.mk h
  have HST := Aside0.mk (show stepD d ⟨z, a, long, A1, c1, bs, A2, c2, ks⟩ = d by simp only [stepD]; rw [if_neg (by omega), if_neg (by omega), if_neg (by omega), if_neg (by omega)])
  rw [HST.out]
  have e0 : (z == 0) = false := by simp; omega
  have e1 : (z == 1) = false := by simp; omega
  have e2 : (z == 2) = false := by simp; omega
  have e3 : (z == 3) = false := by simp; omega
  have e4 : (z == 4) = false := by simp; omega
  clear h hw
  go_enter Try.func33, Try.ntmps33
  go_wp2
  go_ret2
  exact ⟨_, _, rfl, (HH.out.move (below_alloc (Below.refl _ _) _)), (Fr.refl _ _).alloc _⟩
set_option maxRecDepth 100000 in
theorem does3_high (w : World) (p : Nat) (v : Value) (s f : Nat) (d : Dev) (z a long : Int) (A1 : Option Addr) (c1 : Nat) (bs : List Int) (A2 : Option Addr) (c2 : Nat) (ks : List Int) (h : HasD w p v s f d) (hw : WfPo w ⟨z, a, long, A1, c1, bs, A2, c2, ks⟩) (hz : 4 < z) :
    Calls Try.prog 33 #[.pointer (some ⟨p, 0, none⟩), .agg #[.int .i64 z, .int .i64 a, .int .i64 long, .slice A1 bs.length c1, .slice A2 ks.length c2]] w (DoesD w p v s f (stepD d ⟨z, a, long, A1, c1, bs, A2, c2, ks⟩)) := by
  have HH := Aside0.mk h
  have HST := Aside0.mk (show stepD d ⟨z, a, long, A1, c1, bs, A2, c2, ks⟩ = d by simp only [stepD]; rw [if_neg (by omega), if_neg (by omega), if_neg (by omega), if_neg (by omega)])
  rw [HST.out]
  have e0 : (z == 0) = false := by simp; omega
  have e1 : (z == 1) = false := by simp; omega
  have e2 : (z == 2) = false := by simp; omega
  have e3 : (z == 3) = false := by simp; omega
  have e4 : (z == 4) = false := by simp; omega
  clear h hw
  go_enter Try.func33, Try.ntmps33
  go_wp2
  go_ret2
  exact ⟨_, _, rfl, (HH.out.move (below_alloc (Below.refl _ _) _)), (Fr.refl _ _).alloc _⟩
theorem does3_calls (w : World) (p : Nat) (v : Value) (s f : Nat) (d : Dev) (z a long : Int) (A1 : Option Addr) (c1 : Nat) (bs : List Int) (A2 : Option Addr) (c2 : Nat) (ks : List Int) (h : HasD w p v s f d) (hw : WfPo w ⟨z, a, long, A1, c1, bs, A2, c2, ks⟩) (hk : 0 < ks.length → ∀ ad, A2 = some ad → ¬ some ad.block = v.ownBlock) :
    Calls Try.prog 33 #[.pointer (some ⟨p, 0, none⟩), .agg #[.int .i64 z, .int .i64 a, .int .i64 long, .slice A1 bs.length c1, .slice A2 ks.length c2]] w (DoesD w p v s f (stepD d ⟨z, a, long, A1, c1, bs, A2, c2, ks⟩)) := by
  rcases (show z < 0 ∨ z = 0 ∨ z = 1 ∨ z = 2 ∨ z = 3 ∨ z = 4 ∨ 4 < z by omega) with hz | hz | hz | hz | hz | hz | hz
  · exact does3_low w p v s f d z a long A1 c1 bs A2 c2 ks h hw hz
  · exact does3_write w p v s f d z a long A1 c1 bs A2 c2 ks h hw hz
  · exact does3_read w p v s f d z a long A1 c1 bs A2 c2 ks h hw hz
  · exact does3_flush w p v s f d z a long A1 c1 bs A2 c2 ks h hw hz
  · exact does3_fence w p v s f d z a long A1 c1 bs A2 c2 ks h hw hz
  · exact does3_crash w p v s f d z a long A1 c1 bs A2 c2 ks h hw hk hz
  · exact does3_high w p v s f d z a long A1 c1 bs A2 c2 ks h hw hz
end Go.Proofs.Ytbfogcckbhkciaa.Hand
namespace Go.Proofs.Ytbfogcckbhkciaa.Hand
open Go.RowKit Go.ChangeShapes Go.WideShapes Go.ChangeAt Go.Proofs.YtbfogcckbhkciaaW.PrintWords
set_option linter.unusedVariables false

theorem open_i64s {H : Type} {enc : TypeId × Value → H} {W : World} {spare : Nat → Bool} {held : Bool} {a : Option Addr} {len cap : Nat} {n : Nat} {y : DataW H × List MemPlace}
    (hf : DataW.trod enc Try.prog W 0 spare held n 24 [.slice a len cap] = some y) : ∃ l : List Int, len = l.length ∧ ReadsInt W .i64 a l.length l := by
  rcases open_ints Try.underlying24 Try.underlying3 (by kernel_rfl) hf with ⟨hcs, _⟩ | ⟨x, l, c, zs, hcs, _, hl, hm, hz, _, hcell, hwz⟩
  · simp at hcs
    obtain ⟨rfl, rfl, rfl⟩ := hcs
    exact ⟨[], rfl, ⟨rfl, by simp, fun h => absurd h (by simp)⟩⟩
  · simp at hcs
    obtain ⟨rfl, rfl, rfl⟩ := hcs
    have hz' : len ≤ zs.length := by rw [hz]; split <;> omega
    have hlen : (zs.take len).length = len := by rw [List.length_take]; omega
    refine ⟨zs.take len, hlen.symm, ⟨rfl, by rw [hlen]; simp only [maxLen] at hm; omega, fun _ => ⟨x, rfl, fun j hj => ?_⟩⟩⟩
    rw [hlen] at hj
    rw [hcell j (by omega)]
    congr 2
    rw [List.getD_eq_getElem?_getD, List.getD_eq_getElem?_getD, List.getElem?_take_of_lt hj]
theorem open_u8s {H : Type} {enc : TypeId × Value → H} {W : World} {spare : Nat → Bool} {held : Bool} {a : Option Addr} {len cap : Nat} {n : Nat} {y : DataW H × List MemPlace}
    (hf : DataW.trod enc Try.prog W 0 spare held n 23 [.slice a len cap] = some y) : ∃ l : List Int, len = l.length ∧ ReadsInt W .u8 a l.length l ∧ Bys l ∧ len ≤ cap := by
  rcases open_ints Try.underlying23 Try.underlying5 (by kernel_rfl) hf with ⟨hcs, _⟩ | ⟨x, l, c, zs, hcs, _, hl, hm, hz, _, hcell, hwz⟩
  · simp at hcs
    obtain ⟨rfl, rfl, rfl⟩ := hcs
    exact ⟨[], rfl, ⟨rfl, by simp, fun h => absurd h (by simp)⟩, fun x hx => absurd hx (by simp), Nat.le_refl _⟩
  · simp at hcs
    obtain ⟨rfl, rfl, rfl⟩ := hcs
    have hz' : len ≤ zs.length := by rw [hz]; split <;> omega
    have hlen : (zs.take len).length = len := by rw [List.length_take]; omega
    refine ⟨zs.take len, hlen.symm, ⟨rfl, by rw [hlen]; simp only [maxLen] at hm; omega, fun _ => ⟨x, rfl, fun j hj => ?_⟩⟩, fun n hn => ?_, hl⟩
    · rw [hlen] at hj
      rw [hcell j (by omega)]
      congr 2
      rw [List.getD_eq_getElem?_getD, List.getD_eq_getElem?_getD, List.getElem?_take_of_lt hj]
    · have := hwz n (List.mem_of_mem_take hn)
      simp only [Lit.wf, IntKind.min, IntKind.max, IntKind.signed, IntKind.bits, Bool.and_eq_true] at this
      simp at this
      omega
theorem list5 {α : Type} {l : List α} (h : l.length = 5) : ∃ a b c d e, l = [a, b, c, d, e] := by
  match l, h with
  | [a, b, c, d, e], _ => exact ⟨a, b, c, d, e, rfl⟩
theorem okSlice {H : Type} {enc : TypeId × Value → H} {W : World} {spare : Nat → Bool} {held : Bool} {t e : TypeId} (ht : Try.prog.underlying t = some (.slice e)) {n : Nat} {v : Value} {y : DataW H × List MemPlace}
    (hf : DataW.trod enc Try.prog W 0 spare held n t [v] = some y) : ∃ a len cap, v = .slice a len cap := by
  rcases Go.Deep.open_slice ht hf with ⟨hcs, _⟩ | ⟨a, l, c, m, n, D, Pl, hcs, _⟩
  · exact ⟨none, 0, 0, by simpa using hcs⟩
  · exact ⟨some a, l, c, by simpa using hcs⟩
theorem po_cells {H : Type} {enc : TypeId × Value → H} {w : World} {spare : Nat → Bool} {held : Bool} {n : Nat} {cs : List Value} {y : DataW H × List MemPlace} (h : DataW.trod enc Try.prog w 0 spare held n 26 cs = some y) : ∃ x : OpP, cs = encPo x ∧ WfPo w x := by
  obtain ⟨xs, m, _, rfl, hlen, hxs, hf⟩ := DataW.trod_struct Try.underlying26 h
  obtain ⟨a, b, c, d, e, rfl⟩ := list5 (hlen.trans (show Try.prog.cellsOf 26 = 5 by kernel_rfl))
  have h0 : DataW.trod enc Try.prog w 0 spare held m 3 (([a, b, c, d, e].drop 0).take (Try.prog.cellsOf 3)) = xs[0]? := hf 0 _ rfl
  have h1 : DataW.trod enc Try.prog w 0 spare held m 3 (([a, b, c, d, e].drop 1).take (Try.prog.cellsOf 3)) = xs[1]? := hf 1 _ rfl
  have h2 : DataW.trod enc Try.prog w 0 spare held m 3 (([a, b, c, d, e].drop 2).take (Try.prog.cellsOf 3)) = xs[2]? := hf 2 _ rfl
  have h3 : DataW.trod enc Try.prog w 0 spare held m 23 (([a, b, c, d, e].drop 3).take (Try.prog.cellsOf 23)) = xs[3]? := hf 3 _ rfl
  have h4 : DataW.trod enc Try.prog w 0 spare held m 24 (([a, b, c, d, e].drop 4).take (Try.prog.cellsOf 24)) = xs[4]? := hf 4 _ rfl
  obtain ⟨y0, e0⟩ : ∃ y0, xs[0]? = some y0 := ⟨_, List.getElem?_eq_getElem (by rw [hxs]; decide)⟩
  obtain ⟨y1, e1⟩ : ∃ y0, xs[1]? = some y0 := ⟨_, List.getElem?_eq_getElem (by rw [hxs]; decide)⟩
  obtain ⟨y2, e2⟩ : ∃ y0, xs[2]? = some y0 := ⟨_, List.getElem?_eq_getElem (by rw [hxs]; decide)⟩
  obtain ⟨y3, e3⟩ : ∃ y0, xs[3]? = some y0 := ⟨_, List.getElem?_eq_getElem (by rw [hxs]; decide)⟩
  obtain ⟨y4, e4⟩ : ∃ y0, xs[4]? = some y0 := ⟨_, List.getElem?_eq_getElem (by rw [hxs]; decide)⟩
  rw [e0] at h0
  rw [e1] at h1
  rw [e2] at h2
  rw [e3] at h3
  rw [e4] at h4
  rw [show Try.prog.cellsOf 3 = 1 by kernel_rfl] at h0 h1 h2
  rw [show Try.prog.cellsOf 23 = 1 by kernel_rfl] at h3
  rw [show Try.prog.cellsOf 24 = 1 by kernel_rfl] at h4
  obtain ⟨q0, f0, _, w0⟩ := DataW.trod_int Try.underlying3 h0
  obtain ⟨q1, f1, _, w1⟩ := DataW.trod_int Try.underlying3 h1
  obtain ⟨q2, f2, _, w2⟩ := DataW.trod_int Try.underlying3 h2
  simp at f0 f1 f2
  subst f0 f1 f2
  simp only [List.drop_succ_cons, List.drop_zero, List.take_succ_cons, List.take_zero] at h3 h4
  obtain ⟨A1, n1, c1, rfl⟩ := okSlice Try.underlying23 h3
  obtain ⟨A2, n2, c2, rfl⟩ := okSlice Try.underlying24 h4
  obtain ⟨bs, rfl, rb, hb, hc⟩ := open_u8s h3
  obtain ⟨ks, rfl, rk⟩ := open_i64s h4
  exact ⟨⟨q0, q1, q2, A1, c1, bs, A2, c2, ks⟩, rfl, ⟨rb, hb, hc, rk, wf_i64 w0, wf_i64 w1, wf_i64 w2⟩⟩
theorem open_pops {H : Type} {enc : TypeId × Value → H} {w : World} {spare : Nat → Bool} {held : Bool} {A : Option Addr} {len cap : Nat} {d : DataW H} {ps : List MemPlace}
    (h : DataW.Trod enc Try.prog w 0 spare held 22 (.slice A len cap) d ps) : ∃ os : List OpP, len = os.length ∧ PoK.C w A os.length os ∧ ∀ o ∈ os, WfPo w o :=
  open_flat Try.underlying22 (by kernel_rfl) (fun n cs y h => po_cells h) h
set_option maxRecDepth 100000 in
/-- A call by value. -/
theorem open_po {H : Type} {enc : TypeId × Value → H} {w : World} {spare : Nat → Bool} {held : Bool} {r : Reach} {b0 : Nat} {v : Value} {d : DataW H} {ps : List MemPlace}
    (hv : Value.okWide Try.prog w r b0 26 v) (h : DataW.Trod enc Try.prog w 0 spare held 26 v d ps) : ∃ x : OpP, v = .agg (encPo x).toArray ∧ WfPo w x := by
  obtain ⟨cs, rfl, hsz⟩ := okWide_struct Try.underlying26 hv
  obtain ⟨fuel, hf⟩ := h
  obtain ⟨x, hx, hw⟩ := po_cells (cs := cs.toList) hf
  exact ⟨x, congrArg Value.agg (by rw [← hx]), hw⟩
theorem open_keep {H : Type} {enc : TypeId × Value → H} {W : World} {spare : Nat → Bool} {held : Bool} {a : Option Addr} {len cap : Nat} {d : DataW H} {ps : List MemPlace}
    (h : DataW.Trod enc Try.prog W 0 spare held 24 (.slice a len cap) d ps) : ∃ l : List Int, len = l.length ∧ ReadsInt W .i64 a l.length l := by
  obtain ⟨fuel, hf⟩ := h
  exact open_i64s hf
end Go.Proofs.Ytbfogcckbhkciaa.Hand
namespace Go.Proofs.Ytbfogcckbhkciaa.Hand
open Go.RowKit Go.Maps Go.Proofs.YtbfogcckbhkciaaW.PrintWords
set_option linter.unusedVariables false

/-- A bool, whichever. -/
def SomeB (w : World) (e : Ending) (w' : World) : Prop := ∃ b : Bool, e = .returned (.bool b) ∧ Below w.heap.size w w'
set_option maxRecDepth 100000 in
theorem few3_calls (w : World) (A : Option Addr) (c : Nat) (os : List OpP) (ho : PoK.C w A os.length os) (hw : ∀ o ∈ os, WfPo w o) :
    Calls Try.prog 32 #[.slice A os.length c] w (SomeB w) := by
  have HO := Aside0.mk ho
  have HW := Aside0.mk hw
  have hl : os.length ≤ 9223372036854775807 := ho.2.1
  clear ho hw
  go_enter Try.func32, Try.ntmps32
  go_wp2
  go_loopw [3, 8] (fun n i wr => ∃ (k : Nat) (m : Int), k ≤ os.length ∧ n = .int .i64 m ∧ i = .int .i64 k ∧ Aside0 (Below w.heap.size w wr)) (fun _ i _ => (os.length - intOf i).toNat)
  case atStart => exact ⟨0, 0, Nat.zero_le _, rfl, rfl, ⟨Below.refl _ _⟩⟩
  case round =>
    obtain ⟨k, m, hk, rfl, rfl, HB⟩ := hrel
    by_cases hlt : k < os.length
    · (obtain ⟨o, hx⟩ : ∃ o, os[k]? = some o := ⟨_, List.getElem?_eq_getElem hlt⟩; obtain ⟨bb, ob, hB, hcb⟩ := C_at (Kd.C_below HO.out HB.out) (by decide) hx; subst hB; have HWO := Aside0.mk (HW.out o (List.mem_of_getElem? hx)); obtain ⟨z, a, long, A1, c1, bs, A2, c2, ks⟩ := o; have b0 : wr.cell? ⟨bb, ob + k * 5, none⟩ = some (.int .i64 z) := hcb 0 (by decide); have b1 : wr.cell? ⟨bb, ob + k * 5 + 1, none⟩ = some (.int .i64 a) := hcb 1 (by decide); have b2 : wr.cell? ⟨bb, ob + k * 5 + 2, none⟩ = some (.int .i64 long) := hcb 2 (by decide); have b3 : wr.cell? ⟨bb, ob + k * 5 + 3, none⟩ = some (.slice A1 bs.length c1) := hcb 3 (by decide); have b4 : wr.cell? ⟨bb, ob + k * 5 + 4, none⟩ = some (.slice A2 ks.length c2) := hcb 4 (by decide); clear hcb)
      clear hx
      go_wp2
      refine ⟨⟨k + 1, _, by omega, rfl, by go_num, ⟨below_alloc HB.out _⟩⟩, by simp [intOf]; omega⟩
    · obtain rfl : k = os.length := by omega
      by_cases h8 : os.length ≤ 80
      · go_wp2
        go_ret
        exact ⟨_, rfl, HB.out⟩
      · go_wp2
        go_ret
        exact ⟨_, rfl, HB.out⟩
def dev10 : Dev := Dev.of (List.replicate 80 0)
theorem runD_take {d : Dev} {os : List OpP} {k : Nat} {o : OpP} (h : os[k]? = some o) : runD d (os.take (k + 1)) = stepD (runD d (os.take k)) o := by
  have : os.take (k + 1) = os.take k ++ [o] := by rw [List.take_add_one, h]; rfl
  rw [this, runD, List.foldl_append]
  rfl
/-- What made leaves. -/
def MadeD (w : World) (os : List OpP) (e : Ending) (w' : World) : Prop :=
  (e = .returned (.tuple #[.pointer none, .bool false]) ∧ Below w.heap.size w w') ∨
  ∃ (p : Nat) (v : Value) (s f : Nat), e = .returned (.tuple #[.pointer (some ⟨p, 0, none⟩), .bool true]) ∧ HasD w' p v s f (runD dev10 os) ∧ w.heap.size ≤ p ∧ (∀ b, OwnD v s f b → w.heap.size ≤ b) ∧ Below w.heap.size w w'
theorem reads_off {q : IntKind} {w : World} {A : Option Addr} {n : Nat} {l : List Int} (h : ReadsInt w q A n l) {v : Value} (hv : ∀ b, some b = v.ownBlock → w.heap.size ≤ b) : 0 < n → ∀ ad, A = some ad → ¬ some ad.block = v.ownBlock := by
  intro h0 ad e hb
  obtain ⟨ad', e', hx⟩ := h.2.2 h0
  rw [e] at e'
  obtain rfl := Option.some.inj e'
  have h1 := World.block_lt_of_cell? _ _ (hx 0 h0)
  have : (ad.add 0).block = ad.block := by unfold Addr.add; split <;> rfl
  rw [this] at h1
  have := hv _ hb
  omega
theorem WfPo.below {w w1 : World} {x : OpP} (h : WfPo w x) (hb : Below w.heap.size w w1) : WfPo w1 x := ⟨h.rb.below hb, h.by_, h.cb, h.rk.below hb, h.hz, h.ha, h.hl⟩
set_option maxRecDepth 100000 in
theorem made3_calls (w : World) (A : Option Addr) (c : Nat) (os : List OpP) (ho : PoK.C w A os.length os) (hw : ∀ o ∈ os, WfPo w o) :
    Calls Try.prog 20 #[.int .i64 10, .slice A os.length c] w (MadeD w os) := by
  have HO := Aside0.mk ho
  have HW := Aside0.mk hw
  have hl : os.length ≤ 9223372036854775807 := ho.2.1
  clear ho hw
  have HN := Aside0.mk (show Calls Try.prog 27 #[.int .i64 10] w (NewDev w (List.replicate 80 0)) from new_calls w 10 (by omega))
  go_enter Try.func20, Try.ntmps20
  go_wp2_with (first | (go_at_call 27; (with_reducible refine HN.out.mono ?_); rintro e w1 ⟨p, v, s, f, rfl, hd1, hp1, hv1, hb1⟩; have HD1 := Aside0.mk hd1; have HP1 := Aside0.mk hp1; have HV1 := Aside0.mk hv1; have HB1 := Aside0.mk hb1; clear hd1 hp1 hv1 hb1) | (go_at_call 32; (with_reducible refine (few3_calls w1 A c os (Kd.C_below HO.out HB1.out) (fun o ho => (HW.out o ho).below HB1.out)).mono ?_); rintro e w2 ⟨b, rfl, hb2⟩; have HD2 := Aside0.mk (HD1.out.move hb2); have HB2 := Aside0.mk (bel_step HB1.out hb2); clear hb2; cases b))
  go_ret2
  exact .inl ⟨rfl, HB2.out⟩
  go_loopw [28] (fun i wr => ∃ k : Nat, k ≤ os.length ∧ i = .int .i64 k ∧ Aside0 (HasD wr p v s f (runD dev10 (os.take k))) ∧ Aside0 (Below w.heap.size w wr)) (fun i _ => (os.length - intOf i).toNat)
  case atStart => exact ⟨0, Nat.zero_le _, rfl, HD2, HB2⟩
  case round =>
    obtain ⟨k, hk, rfl, HD, HB⟩ := hrel
    by_cases hlt : k < os.length
    · (obtain ⟨o, hx⟩ : ∃ o, os[k]? = some o := ⟨_, List.getElem?_eq_getElem hlt⟩; obtain ⟨bb, ob, hB, hcb⟩ := C_at (Kd.C_below HO.out HB.out) (by decide) hx; subst hB; have HWO := Aside0.mk (HW.out o (List.mem_of_getElem? hx)); obtain ⟨z, a, long, A1, c1, bs, A2, c2, ks⟩ := o; have b0 : wr.cell? ⟨bb, ob + k * 5, none⟩ = some (.int .i64 z) := hcb 0 (by decide); have b1 : wr.cell? ⟨bb, ob + k * 5 + 1, none⟩ = some (.int .i64 a) := hcb 1 (by decide); have b2 : wr.cell? ⟨bb, ob + k * 5 + 2, none⟩ = some (.int .i64 long) := hcb 2 (by decide); have b3 : wr.cell? ⟨bb, ob + k * 5 + 3, none⟩ = some (.slice A1 bs.length c1) := hcb 3 (by decide); have b4 : wr.cell? ⟨bb, ob + k * 5 + 4, none⟩ = some (.slice A2 ks.length c2) := hcb 4 (by decide); clear hcb)
      have HRN := Aside0.mk (runD_take (d := dev10) hx)
      clear hx
      have HDO := Aside0.mk (does3_calls _ p v s f _ z a long A1 c1 bs A2 c2 ks (HD.out.move (below_alloc (Below.refl _ _) (.cells #[.int .i64 z, .int .i64 a, .int .i64 long, .slice A1 bs.length c1, .slice A2 ks.length c2] 26))) (HWO.out.below (below_alloc HB.out _)) (reads_off HWO.out.rk (fun b hb => HV1.out b (.inl hb))))
      go_wp2_with (go_at_call 33; (with_reducible refine HDO.out.mono ?_); rintro e w3 ⟨t, n, rfl, hd3, hf3⟩; have HD3 := Aside0.mk hd3; have HB3 := Aside0.mk ((below_alloc HB.out _).trans (hf3.below _ (below_alloc HB.out _).size (fun b hb => HV1.out b hb))); clear hd3 hf3)
      refine ⟨⟨k + 1, by omega, by go_num, ⟨?_⟩, HB3⟩, by simp [intOf]; omega⟩
      rw [HRN.out]
      exact HD3.out
    · obtain rfl : k = os.length := by omega
      rw [List.take_length] at HD
      go_wp2
      go_ret2
      exact .inr ⟨p, v, s, f, rfl, HD.out, HP1.out, HV1.out, HB.out⟩
theorem runD_ok {w : World} {os : List OpP} (h : ∀ o ∈ os, WfPo w o) : (runD dev10 os).Ok ∧ (runD dev10 os).B.length = 80 := by
  have : ∀ (d : Dev) (os : List OpP), d.Ok → (∀ o ∈ os, WfPo w o) → (runD d os).Ok ∧ (runD d os).B.length = d.B.length := by
    intro d os
    induction os generalizing d with
    | nil => exact fun h _ => ⟨h, rfl⟩
    | cons o os ih =>
      intro hd ho
      have h1 := stepD_ok hd (ho o (List.mem_cons_self ..))
      obtain ⟨h2, h3⟩ := ih (stepD d o) h1 (fun x hx => ho x (List.mem_cons_of_mem _ hx))
      exact ⟨h2, h3.trans (stepD_len hd o)⟩
  have h0 : dev10.Ok := Dev.Ok.of (by simp) (by simp) (zeros_bys 80)
  obtain ⟨h1, h2⟩ := this dev10 os h0 h
  exact ⟨h1, by rw [h2]; simp [dev10, Dev.of]⟩
end Go.Proofs.Ytbfogcckbhkciaa.Hand
namespace Go.Proofs.Ytbfogcckbhkciaa.Hand
open Go.RowKit Go.Maps Go.Proofs.YtbfogcckbhkciaaW.PrintWords
set_option linter.unusedVariables false
theorem take_rdi {l : List Int} {k : Nat} (h : k < l.length) : l.take (k + 1) = l.take k ++ [rd l k] := by
  rw [List.take_add_one]
  congr 1
  rw [rd]
  simp [h]
set_option maxRecDepth 100000 in
theorem same_calls (A B : Option Addr) (c d : Nat) (l m : List Int) (w : World) (hA : ReadsInt w .i64 A l.length l) (hB : ReadsInt w .i64 B m.length m) :
    Calls Try.prog 34 #[.slice A l.length c, .slice B m.length d] w fun e w' => e = .returned (.bool (decide (l = m))) ∧ Below w.heap.size w w' := by
  have HA := Aside0.mk hA
  have HB := Aside0.mk hB
  clear hA hB
  by_cases hlm : l.length = m.length
  · have hl : l.length ≤ 9223372036854775807 := HA.out.2.1
    have hlm2 : ((l.length : Int) != m.length) = false := by simp; omega
    go_enter Try.func34, Try.ntmps34
    go_wp2
    go_loopw [5] (fun i wr => ∃ k : Nat, k ≤ l.length ∧ i = .int .i64 k ∧ Aside0 (l.take k = m.take k) ∧ Aside0 (Below w.heap.size w wr)) (fun i _ => (l.length - intOf i).toNat)
    case atStart => exact ⟨0, Nat.zero_le _, rfl, ⟨rfl⟩, ⟨Below.refl _ _⟩⟩
    case round =>
      obtain ⟨k, hk, rfl, HT, HW⟩ := hrel
      by_cases hlt : k < l.length
      · obtain ⟨ad, rfl, hx⟩ := HA.out.2.2 (by omega)
        obtain ⟨bd, rfl, hy⟩ := HB.out.2.2 (by omega)
        have hx1 : wr.cell? (ad.add k) = some (.int .i64 (rd l k)) := (HW.out.cell (World.block_lt_of_cell? w _ (hx k hlt))).trans (hx k hlt)
        have hy1 : wr.cell? (bd.add k) = some (.int .i64 (rd m k)) := (HW.out.cell (World.block_lt_of_cell? w _ (hy k (by omega)))).trans (hy k (by omega))
        clear hx hy
        have HL := Aside0.mk (take_rdi (l := l) (k := k) hlt)
        have HM := Aside0.mk (take_rdi (l := m) (k := k) (by omega))
        by_cases he : rd l k = rd m k
        · go_wp2
          go_quiet (fail)
          go_wp2
          go_roundw
          case rel => exact ⟨k + 1, by omega, by go_num, ⟨by rw [HL.out, HM.out, HT.out, he]⟩, ⟨pw_below_drewN HW.out _⟩⟩
          case measure => simp [intOf]; omega
        · go_wp2
          go_quiet (fail)
          go_wp2
          go_ret
          refine ⟨congrArg (fun b => Ending.returned (.bool b)) ?_, pw_below_drewN HW.out _⟩
          rw [decide_eq_false (fun h => he (by rw [h]))]
      · obtain rfl : k = l.length := by omega
        go_wp2
        go_ret
        refine ⟨congrArg (fun b => Ending.returned (.bool b)) ?_, HW.out⟩
        have h1 := HT.out
        rw [List.take_of_length_le (Nat.le_refl _), List.take_of_length_le (by omega)] at h1
        rw [decide_eq_true h1]
  · have hlm2 : ((l.length : Int) != m.length) = true := by simp; omega
    have HE := Aside0.mk (show decide (l = m) = false from decide_eq_false (fun h => hlm (by rw [h])))
    go_enter Try.func34, Try.ntmps34
    go_wp2
    go_ret
    rw [HE.out]
    exact ⟨rfl, Below.refl _ _⟩
end Go.Proofs.Ytbfogcckbhkciaa.Hand
namespace Go.Proofs.Ytbfogcckbhkciaa.Hand
open Go.RowKit Go.Maps Go.Proofs.YtbfogcckbhkciaaW.PrintWords
set_option linter.unusedVariables false

def abD : Dev := Dev.of (List.replicate 16 0)
def abD1 : Dev := abD.write 6 [97, 98, 99, 100]
def abD2 : Dev := abD1.flush 0 8
def abD3 : Dev := abD2.fence
def abD4 : Dev := abD3.crash []
theorem ab_len : abD.B.length = 16 ∧ abD1.B.length = 16 ∧ abD2.B.length = 16 ∧ abD3.B.length = 16 ∧ abD4.B.length = 16 := by decide +kernel
theorem ab_loose1 : looseM abD1 = [0, 1] := by decide +kernel
theorem ab_loose4 : looseM abD4 = [] := by decide +kernel
theorem ab_read : cut abD4.B 6 4 = [97, 98, 0, 0] := by decide +kernel
theorem own_base {q : IntKind} {t : TypeId} {w : World} {base : Nat} {ok : Nat → Prop} {A : Option Addr} {c : Nat} {l : List Int} (h : Kd.R (Kd.int q) t w base ok (.slice A l.length c) l) : 0 < l.length → ∀ ad, A = some ad → base ≤ ad.block := by
  intro h0 ad hA
  obtain ⟨g, cap, e, hg, _⟩ := own_slice_form h h0
  simp only [Value.slice.injEq] at e
  rw [hA] at e
  have := Option.some.inj e.1
  rw [this]
  exact hg
theorem ints_own {w : World} {base : Nat} {ok : Nat → Prop} {v : Value} {xs : List Int} (h : Kd.R (Kd.int .i64) 3 w base ok v xs) : ∃ A c, v = .slice A xs.length c ∧ ReadsInt w .i64 A xs.length xs ∧ (0 < xs.length → ∀ ad, A = some ad → base ≤ ad.block) := by
  obtain ⟨A, c, rfl, hl, hc⟩ := Kd.R_reads h
  exact ⟨A, c, rfl, Kd.reads_of_C (d := (0 : Int)) hc, own_base h⟩
/-- Numbers that were told stay, whatever becomes of the device. -/
theorem reads_dev {q : IntKind} {S : Nat → Prop} {w w1 : World} {A : Option Addr} {l : List Int} {base : Nat} (hr : ReadsInt w q A l.length l) (hb : 0 < l.length → ∀ ad, A = some ad → base ≤ ad.block) (hf : Fr S w w1) (hs : ∀ b, S b → b < base) : ReadsInt w1 q A l.length l :=
  reads_frA hr hf (fun h0 ad e h1 => absurd (hs _ h1) (Nat.not_lt.2 (hb h0 ad e)))
theorem lit_reads {w : World} {k : IntKind} {l : List Int} {t : TypeId} {fr : Nat × Nat} (h : l.length ≤ 9223372036854775807) : ReadsInt (w.alloc (.cells (l.map (Value.int k)).toArray t fr)) k (some ⟨w.heap.size, 0, none⟩) l.length l := by
  refine ⟨rfl, h, fun _ => ⟨_, rfl, fun j hj => ?_⟩⟩
  rw [add_plain, Nat.zero_add]
  refine blk_cell (heap_alloc_new w _) ?_
  simp [hj]
section
variable (w : World) (p : Nat) (v : Value) (s f : Nat)
theorem ab_write (A : Option Addr) (h : HasD w p v s f abD) (hr : ReadsInt w .u8 A 4 [97, 98, 99, 100]) : Calls Try.prog 23 #[.pointer (some ⟨p, 0, none⟩), .int .i64 6, .slice A 4 4] w fun e w' => e = .returned (.int .i64 0) ∧ HasD w' p v s f abD1 ∧ Fr (OwnD v s f) w w' :=
  write_good w p v s f abD 6 A 4 4 [97, 98, 99, 100] rfl h hr (by simp [Bys]) (by decide +kernel)
theorem ab_flush (h : HasD w p v s f abD1) : Calls Try.prog 25 #[.pointer (some ⟨p, 0, none⟩), .int .i64 0, .int .i64 8] w fun e w' => e = .returned (.int .i64 0) ∧ HasD w' p v s f abD2 ∧ Fr (OwnD v s f) w w' :=
  flush_calls w p v s f abD1 0 8 h (by decide +kernel)
theorem ab_fence (h : HasD w p v s f abD2) : Calls Try.prog 24 #[.pointer (some ⟨p, 0, none⟩)] w fun e w' => e = .returned (.tuple #[]) ∧ HasD w' p v s f abD3 ∧ Fr (OwnD v s f) w w' :=
  fence_calls w p v s f abD2 h
theorem ab_crash (h : HasD w p v s f abD3) : Calls Try.prog 30 #[.pointer (some ⟨p, 0, none⟩), .slice none 0 0] w fun e w' => e = .returned (.tuple #[]) ∧ HasD w' p v s f abD4 ∧ Fr (OwnD v s f) w w' :=
  crash_calls w p v s f abD3 none 0 [] h ⟨rfl, by decide, fun h => absurd h (by decide)⟩ (fun h => absurd h (by decide))
theorem ab_reads (h : HasD w p v s f abD4) : Calls Try.prog 31 #[.pointer (some ⟨p, 0, none⟩), .int .i64 6, .int .i64 4] w fun e w' => ∃ A c, e = .returned (.tuple #[.slice A 4 c, .int .i64 0]) ∧ ReadsInt w' .u8 A 4 [97, 98, 0, 0] ∧ Below w.heap.size w w' := by
  refine (show Calls Try.prog _ #[.pointer (some ⟨p, 0, none⟩), .int .i64 6, .int .i64 4] _ _ from read_good w p v s f abD4 6 4 h (by decide +kernel)).mono ?_
  rintro e w7 ⟨u, rfl, hu, hb⟩
  rw [ab_read] at hu
  obtain ⟨A7, c7, rfl, _, hR7⟩ := reads_own2 hu
  exact ⟨A7, c7, rfl, hR7, hb⟩
theorem ab_loose (h : HasD w p v s f abD1) : Calls Try.prog 26 #[.pointer (some ⟨p, 0, none⟩)] w fun e w' => ∃ A c, e = .returned (.slice A 2 c) ∧ ReadsInt w' .i64 A 2 [0, 1] ∧ (∀ ad, A = some ad → w.heap.size ≤ ad.block) ∧ Below w.heap.size w w' := by
  refine (loose_calls w p v s f abD1 h).mono ?_
  rintro e w3 ⟨u, rfl, hu, hb⟩
  rw [ab_loose1] at hu
  obtain ⟨A3, c3, rfl, hR3, hG3⟩ := ints_own hu
  exact ⟨A3, c3, rfl, hR3, hG3 (by decide), hb⟩
theorem ab_none (h : HasD w p v s f abD4) : Calls Try.prog 26 #[.pointer (some ⟨p, 0, none⟩)] w fun e w' => ∃ A c, e = .returned (.slice A 0 c) ∧ Below w.heap.size w w' := by
  refine (loose_calls w p v s f abD4 h).mono ?_
  rintro e w3 ⟨u, rfl, hu, hb⟩
  rw [ab_loose4] at hu
  obtain ⟨A3, c3, rfl, hR3, hG3⟩ := ints_own hu
  exact ⟨A3, c3, rfl, hb⟩
theorem ab_same (A B : Option Addr) (c d : Nat) (h : ReadsInt w .i64 A 2 [0, 1]) (h2 : ReadsInt w .i64 B 2 [0, 1]) : Calls Try.prog 34 #[.slice A 2 c, .slice B 2 d] w fun e w' => e = .returned (.bool true) ∧ Below w.heap.size w w' :=
  same_calls A B c d [0, 1] [0, 1] w h h2
end
theorem dev_keep {v : Value} {s f : Nat} {w w1 : World} {base : Nat} {A : Option Addr} {l : List Int} {q : IntKind} (hr : ReadsInt w q A l.length l) (hb : ∀ ad, A = some ad → base ≤ ad.block) (hf : Fr (OwnD v s f) w w1) (hs : ∀ b, OwnD v s f b → b < base) : ReadsInt w1 q A l.length l := reads_dev hr (fun _ => hb) hf hs
set_option maxRecDepth 100000 in
theorem pm_alive (w : World) : Calls Try.prog 21 #[] w fun e w' => e = .returned (.bool true) ∧ Below w.heap.size w w' := by
  have HN := Aside0.mk (show Calls Try.prog 27 #[.int .i64 2] w (NewDev w (List.replicate 16 0)) from new_calls w 2 (by omega))
  have HSTR := Aside0.mk (show strOfNums [97, 98, 0, 0] = { data := #[97, 98, 0, 0] } by rfl)
  have kc := fun (w : World) (C : Array Value) (n c : Nat) => Lib.run_convert_bytes_const (P := Try.prog) w 23 5 C n c Try.underlying23 Try.underlying5
  go_enter Try.func21, Try.ntmps21
  go_wp2_with (first | (go_at_call 27; ((with_reducible refine HN.out.mono ?_); rintro e w1 ⟨p, v, s, f, rfl, hd1, hp1, hv1, hb1⟩; have HD1 := Aside0.mk (show HasD w1 p v s f abD from hd1); have HV := Aside0.mk hv1; have HB1 := Aside0.mk hb1; clear hd1 hp1 hv1 hb1)) | (go_at_call 23; ((with_reducible refine (ab_write _ p v s f (some ⟨w1.heap.size, 0, none⟩) (HD1.out.move (below_alloc (Below.refl _ _) _)) (lit_reads (l := [97, 98, 99, 100]) (by decide))).mono ?_); rintro e w2 ⟨rfl, hd, hf⟩; have HD2 := Aside0.mk hd; have HB2 := Aside0.mk ((below_alloc HB1.out _).trans (hf.below _ (below_alloc HB1.out _).size (fun b hb => HV.out b hb))); clear hd hf)) | (go_at_call 25; ((with_reducible refine (ab_flush _ p v s f HD3.out).mono ?_); rintro e w4 ⟨rfl, hd, hf⟩; have HD4 := Aside0.mk hd; have HB4 := Aside0.mk (HB3.out.trans (hf.below _ HB3.out.size (fun b hb => HV.out b hb))); have HL4 := Aside0.mk (dev_keep HL3.out HG.out hf (fun b hb => HD2.out.own_lt hb)); clear hd hf)) | (go_at_call 24; ((with_reducible refine (ab_fence _ p v s f HD4.out).mono ?_); rintro e w5 ⟨rfl, hd, hf⟩; have HD5 := Aside0.mk hd; have HB5 := Aside0.mk (HB4.out.trans (hf.below _ HB4.out.size (fun b hb => HV.out b hb))); have HL5 := Aside0.mk (dev_keep HL4.out HG.out hf (fun b hb => HD2.out.own_lt hb)); clear hd hf)) | (go_at_call 30; ((with_reducible refine (ab_crash _ p v s f HD5.out).mono ?_); rintro e w6 ⟨rfl, hd, hf⟩; have HD6 := Aside0.mk hd; have HB6 := Aside0.mk (HB5.out.trans (hf.below _ HB5.out.size (fun b hb => HV.out b hb))); have HL6 := Aside0.mk (dev_keep HL5.out HG.out hf (fun b hb => HD2.out.own_lt hb)); clear hd hf)) | (go_at_call 31; ((with_reducible refine (ab_reads _ p v s f HD6.out).mono ?_); rintro e w7 ⟨A7, c7, rfl, hR7, hb⟩; have HD7 := Aside0.mk (HD6.out.move hb); have HB7 := Aside0.mk (bel_step HB6.out hb); have HR7 := Aside0.mk hR7; have HL7 := Aside0.mk (HL6.out.below hb); clear hb hR7)) | (go_at_call 34; ((with_reducible refine (ab_same _ A3 (some ⟨w7.heap.size, 0, none⟩) c3 2 (HL7.out.below (below_alloc (Below.refl _ _) _)) (lit_reads (l := [0, 1]) (by decide))).mono ?_); rintro e w8 ⟨rfl, hb⟩; have HB8 := Aside0.mk (bel_step (below_alloc HB7.out _) hb); have HD8 := Aside0.mk ((HD7.out.move (below_alloc (Below.refl _ _) _)).move hb); have HR8 := Aside0.mk ((HR7.out.below (below_alloc (Below.refl _ _) _)).below hb); have hcv := conv_reads (c := c7) HR8.out; rw [HSTR.out, show ([97, 98, 0, 0] : List Int).length = 4 from rfl] at hcv; clear hb)) | (go_at_call 26; ((with_reducible refine (ab_loose _ p v s f HD2.out).mono ?_); rintro e w3 ⟨A3, c3, rfl, hR3, hG3, hb⟩; have HD3 := Aside0.mk (HD2.out.move hb); have HB3 := Aside0.mk (bel_step HB2.out hb); have HL3 := Aside0.mk hR3; have HG := Aside0.mk hG3; clear hb hR3 hG3)) | (go_at_call 26; ((with_reducible refine (ab_none _ p v s f HD8.out).mono ?_); rintro e w9 ⟨A9, c9, rfl, hb⟩; have HB9 := Aside0.mk (bel_step HB8.out hb); clear hb)))
  go_ret
  exact ⟨rfl, HB9.out⟩
end Go.Proofs.Ytbfogcckbhkciaa.Hand
namespace Go.Proofs.Ytbfogcckbhkciaa.Hand
open Go.RowKit Go.Maps Go.Proofs.YtbfogcckbhkciaaW.PrintWords
set_option linter.unusedVariables false
set_option linter.unusedSimpArgs false
/-- What made leaves, of a device. -/
def MadeE (w : World) (d : Dev) (e : Ending) (w' : World) : Prop :=
  (e = .returned (.tuple #[.pointer none, .bool false]) ∧ Below w.heap.size w w') ∨
  ∃ (p : Nat) (v : Value) (s f : Nat), e = .returned (.tuple #[.pointer (some ⟨p, 0, none⟩), .bool true]) ∧ HasD w' p v s f d ∧ w.heap.size ≤ p ∧ (∀ b, OwnD v s f b → w.heap.size ≤ b) ∧ Below w.heap.size w w'
theorem made_e (w : World) (A : Option Addr) (c : Nat) (os : List OpP) (ho : PoK.C w A os.length os) (hw : ∀ o ∈ os, WfPo w o) :
    Calls Try.prog 20 #[.int .i64 10, .slice A os.length c] w (MadeE w (runD dev10 os)) := made3_calls w A c os ho hw
theorem fence_B (d : Dev) : d.fence.B = d.B := rfl
theorem fences_loose (d : Dev) (h : d.B.length = 80) : looseM (d.flush 0 80).fence = [] := by
  rw [looseM, List.filter_eq_nil_iff.2 (fun k hk => ?_)]
  · rfl
  · have hk' : k < (d.flush 0 80).fence.B.length / 8 := List.mem_range.1 hk
    have : (d.flush 0 80).fence.B.length = 80 := h
    have hh : hitB 0 80 k = true := by simp [hitB]; omega
    simp only [Dev.fence, Dev.flush, hh, Bool.true_and]
    cases hs : d.S k <;> simp
theorem flush80_calls (w : World) (p : Nat) (v : Value) (s f : Nat) (d : Dev) (h : HasD w p v s f d) (hl : d.B.length = 80) :
    Calls Try.prog 25 #[.pointer (some ⟨p, 0, none⟩), .int .i64 0, .int .i64 80] w fun e w' => e = .returned (.int .i64 0) ∧ HasD w' p v s f (d.flush 0 80) ∧ Fr (OwnD v s f) w w' :=
  flush_calls w p v s f d 0 80 h (by rw [hl]; decide +kernel)
theorem conv_n {w : World} {A : Option Addr} {n c : Nat} {xs : List Int} (h : ReadsInt w .u8 A n xs) : (convert 23 9 (.slice A n c)).run Try.prog w = .ok (.string (strOfNums xs)) w := by
  have hl := h.1
  subst hl
  exact conv_reads h
/-- A call that stands in a variable. -/
def BoxAt (w : World) (b : Nat) (x : OpP) : Prop := w.heap[b]? = some (.cells #[.int .i64 x.z, .int .i64 x.at_, .int .i64 x.long, .slice x.A1 x.bs.length x.c1, .slice x.A2 x.ks.length x.c2] 26 (0, 0))
def boxed (w : World) (x : OpP) : World := w.alloc (.cells #[.int .i64 x.z, .int .i64 x.at_, .int .i64 x.long, .slice x.A1 x.bs.length x.c1, .slice x.A2 x.ks.length x.c2] 26)
theorem boxed_at (w : World) (x : OpP) : BoxAt (boxed w x) w.heap.size x := heap_alloc_new w _
theorem boxed_below (w : World) (x : OpP) : Below w.heap.size w (boxed w x) := below_alloc (Below.refl _ _) _
theorem boxed_end {w w1 : World} {x : OpP} (h : Below (boxed w x).heap.size (boxed w x) w1) : Below w.heap.size w w1 := bel_step (boxed_below w x) h
theorem BoxAt.below {w w1 : World} {b : Nat} {x : OpP} (h : BoxAt w b x) (hb : Below w.heap.size w w1) : BoxAt w1 b x := (hb.block b (blk_lt h)).trans h
theorem BoxAt.at_ {w : World} {b : Nat} {x : OpP} (h : BoxAt w b x) : w.cell? ⟨b, 1, none⟩ = some (.int .i64 x.at_) ∧ w.cell? ⟨b, 3, none⟩ = some (.slice x.A1 x.bs.length x.c1) := ⟨blk_cell h rfl, blk_cell h rfl⟩
theorem wfs_below {w w1 : World} {os : List OpP} (h : ∀ o ∈ os, WfPo w o) (hb : Below w.heap.size w w1) : ∀ o ∈ os, WfPo w1 o := fun o ho => (h o ho).below hb
end Go.Proofs.Ytbfogcckbhkciaa.Hand
namespace Go.Proofs.Ytbfogcckbhkciaa.Hand
open Go.RowKit Go.Proofs.YtbfogcckbhkciaaW.PrintWords

/-- A register, one bit on. -/
def bitN (n : Int) : Int := if n / 32768 = 1 then bits .xor .u16 (IntKind.u16.wrap (n * 2)) 4129 else IntKind.u16.wrap (n * 2)
theorem bitN_yes {n : Int} (h : n / 32768 = 1) : bitN n = bits .xor .u16 (IntKind.u16.wrap (n * 2)) 4129 := if_pos h
theorem bitN_no {n : Int} (h : ¬ n / 32768 = 1) : bitN n = IntKind.u16.wrap (n * 2) := if_neg h

theorem bit_calls (w : World) (g : Nat) (n : Int) (hg : w.heap[g]? = some (.cells #[.int .u16 n] 195 (0, 0))) :
    Calls Try.prog 150 #[.pointer (some ⟨g, 0, none⟩)] w fun e w' => e = .returned (.tuple #[]) ∧ w'.heap[g]? = some (.cells #[.int .u16 (bitN n)] 195 (0, 0)) ∧ Fr (fun b => b = g) w w' := by
  have hc := cell_of_one hg
  have hf := free_of_one hg
  have HG := Aside0.mk hg
  clear hg
  by_cases h : n / 32768 = 1
  · have HB := Aside0.mk (bitN_yes h)
    have hb1 : (n / 32768 == 1) = true := by simpa using h
    clear h
    go_enter Try.func150, Try.ntmps150
    go_wp2
    go_end0
    exact ⟨rfl, by rw [HB.out]; exact one_setCell (one_setCell HG.out), ((Fr.refl (fun b => b = g) w).setCell (p := ⟨g, 0, none⟩) (.inl rfl) _).setCell (p := ⟨g, 0, none⟩) (.inl rfl) _⟩
  · have HB := Aside0.mk (bitN_no h)
    have hb1 : (n / 32768 == 1) = false := by simpa using h
    clear h
    go_enter Try.func150, Try.ntmps150
    go_wp2
    go_end0
    exact ⟨rfl, by rw [HB.out]; exact one_setCell HG.out, (Fr.refl (fun b => b = g) w).setCell (p := ⟨g, 0, none⟩) (.inl rfl) _⟩

/-- So many bits on. -/
def bitsN (n : Int) : Nat → Int
  | 0 => n
  | k + 1 => bitN (bitsN n k)
/-- A byte more. -/
def byteN (n c : Int) : Int := bitsN (bits .xor .u16 n (IntKind.u16.wrap (IntKind.u16.wrap c * 256))) 8
/-- The register behind the first k bytes. -/
def regN (sum : Int) (l : List Int) : Nat → Int
  | 0 => IntKind.u16.wrap sum
  | k + 1 => byteN (regN sum l k) (rd l k)
def moreF (sum : Int) (l : List Int) : Option Int := if l.length ≤ 140737488355328 then some (wrap64 (regN sum l l.length)) else none

set_option maxHeartbeats 1000000 in
theorem more_calls (sum : Int) (A : Option Addr) (c : Nat) (l : List Int) (r : Int) (w : World) (hr0 : Kd.C (Kd.int .u8) w A l.length l) (h : moreF sum l = some r) :
    Calls Try.prog 134 #[.int .i64 sum, .slice A l.length c] w fun e w' => e = .returned (.int .i64 r) ∧ Below w.heap.size w w' := by
  have HR := Aside0.mk (Kd.reads_of_C (d := (0 : Int)) hr0)
  clear hr0
  obtain ⟨hl, rfl⟩ : l.length ≤ 140737488355328 ∧ wrap64 (regN sum l l.length) = r := by
    unfold moreF at h
    split at h
    · exact ⟨‹_›, Option.some.inj h⟩
    · exact absurd h (by simp)
  clear h
  go_enter Try.func134, Try.ntmps134
  go_wp2
  go_loopw [14] (fun i wr => ∃ k : Nat, k ≤ l.length ∧ i = .int .i64 k ∧ wr.heap[w.heap.size]? = some (.cells #[.int .u16 (regN sum l k)] 195 (0, 0)) ∧ Below w.heap.size w wr) (fun i _ => l.length - (intOf i).toNat)
  case atStart => exact ⟨0, Nat.zero_le _, rfl, heap_alloc_new w _, below_alloc (Below.refl _ _) _⟩
  case round =>
    obtain ⟨k, hk, rfl, hg, hb⟩ := hrel
    have hc := cell_of_one hg
    have hf := free_of_one hg
    by_cases hlt : k < l.length
    · obtain ⟨ad, rfl, hx⟩ := HR.out.2.2 (by omega)
      have hx1 : wr.cell? (ad.add k) = some (.int .u8 (rd l k)) := (hb.cell (World.block_lt_of_cell? w _ (hx k hlt))).trans (hx k hlt)
      clear hx
      have HG := Aside0.mk hg
      have HB := Aside0.mk hb
      clear hg hb
      go_wp2
      go_loopw [23] (fun i wr2 => ∃ j : Nat, j ≤ 8 ∧ i = .int .i64 j ∧ wr2.heap[w.heap.size]? = some (.cells #[.int .u16 (bitsN (bits .xor .u16 (regN sum l k) (IntKind.u16.wrap (IntKind.u16.wrap (rd l k) * 256))) j)] 195 (0, 0)) ∧ Below w.heap.size w wr2) (fun i _ => 8 - (intOf i).toNat)
      case atStart => exact ⟨0, Nat.zero_le _, rfl, one_setCell HG.out, HB.out.setCell (p := ⟨w.heap.size, 0, none⟩) (Nat.le_refl _) _⟩
      case round =>
        obtain ⟨j, hj, rfl, hg, hb⟩ := hrel
        have HG := Aside0.mk hg
        have HB := Aside0.mk hb
        clear hg hb
        by_cases hj8 : j < 8
        · go_wp2_with (go_at_call 150; refine (bit_calls _ _ _ HG.out).mono ?_; rintro e w' ⟨rfl, hg', hfr⟩; have HG' := Aside0.mk hg'; have HF := Aside0.mk hfr; clear hg' hfr)
          go_roundw
          case rel => exact ⟨j + 1, by omega, by go_num, HG'.out, HB.out.trans (HF.out.below _ HB.out.size (fun b hb => by subst hb; exact Nat.le_refl _))⟩
          case measure => simp [intOf]; omega
        · obtain rfl : j = 8 := by omega
          go_wp2
          go_roundw
          case rel => exact ⟨k + 1, by omega, by go_num, HG.out, HB.out⟩
          case measure => simp [intOf]; omega
    · obtain rfl : k = l.length := by omega
      go_wp2
      go_ret
      exact ⟨rfl, hb⟩
end Go.Proofs.Ytbfogcckbhkciaa.Hand
namespace Go.Proofs.Ytbfogcckbhkciaa.Hand
open Go.RowKit Go.Proofs.YtbfogcckbhkciaaW.PrintWords

abbrev V16 := BitVec 16
def tI (x : V16) : Int := (x.toNat : Int)
theorem tI_lt (x : V16) : 0 ≤ tI x ∧ tI x < 65536 := ⟨Int.natCast_nonneg _, by have := x.isLt; unfold tI; omega⟩
theorem tI_toNat (x : V16) : (tI x).toNat = x.toNat := Int.toNat_natCast _
theorem tI_inj {x y : V16} (h : tI x = tI y) : x = y := BitVec.eq_of_toNat_eq (by unfold tI at h; omega)
theorem tI_xor (x y : V16) : bits .xor .u16 (tI x) (tI y) = tI (x ^^^ y) := by
  have := tI_lt x; have := tI_lt y
  rw [u16_xor _ _ (by omega) (by omega) (by omega) (by omega), tI_toNat, tI_toNat, tI, BitVec.toNat_xor]
theorem tI_ofInt (n : Int) : tI (BitVec.ofInt 16 n) = n % 65536 := by
  rw [tI, BitVec.toNat_ofInt]
  have : 0 ≤ n % 65536 := Int.emod_nonneg _ (by decide)
  show ((n % ((2 ^ 16 : Nat) : Int)).toNat : Int) = _
  rw [show (((2 ^ 16 : Nat) : Int)) = 65536 from rfl]
  omega
theorem tI_shl (x : V16) (k : Nat) : tI (x <<< k) = tI x * 2 ^ k % 65536 := by
  rw [tI, BitVec.toNat_shiftLeft, Nat.shiftLeft_eq]
  unfold tI
  rw [Int.natCast_emod, Int.natCast_mul, Int.natCast_pow]
  rfl
def bitV (x : V16) : V16 := if x.msb then (x <<< 1) ^^^ 4129#16 else x <<< 1
theorem bit_v (x : V16) : bitN (tI x) = tI (bitV x) := by
  have h1 := tI_lt x
  have hm : x.msb = decide (tI x / 32768 = 1) := by
    rw [BitVec.msb_eq_decide]
    refine decide_eq_decide.2 ?_
    unfold tI at *
    constructor <;> intro h <;> omega
  have h2 : IntKind.u16.wrap (tI x * 2) = tI (x <<< 1) := by rw [tI_shl, IntKind.wrap_u16]; rfl
  rw [bitN, bitV, hm, h2]
  by_cases h : tI x / 32768 = 1
  · rw [if_pos h, if_pos (by simpa using h), ← tI_xor]
    rfl
  · rw [if_neg h, if_neg (by simpa using h)]
def bitsV (x : V16) : Nat → V16
  | 0 => x
  | k + 1 => bitV (bitsV x k)
theorem bits_v (x : V16) (k : Nat) : bitsN (tI x) k = tI (bitsV x k) := by
  induction k with
  | zero => rfl
  | succ k ih => rw [bitsN, ih, bit_v]; rfl
def byteV (x : V16) (c : Int) : V16 := bitsV (x ^^^ (BitVec.ofInt 16 c <<< 8)) 8
theorem byte_v (x : V16) (c : Int) : byteN (tI x) c = tI (byteV x c) := by
  have h2 : IntKind.u16.wrap (IntKind.u16.wrap c * 256) = tI (BitVec.ofInt 16 c <<< 8) := by
    rw [tI_shl, tI_ofInt, IntKind.wrap_u16, IntKind.wrap_u16]; rfl
  rw [byteN, h2, tI_xor, bits_v]; rfl
def crcV (x : V16) (l : List Int) : V16 := l.foldl byteV x
/-! linear -/
theorem msb_xor (x y : V16) : (x ^^^ y).msb = (x.msb ^^ y.msb) := by
  rw [BitVec.msb_xor]
theorem bitV_xor (x y : V16) : bitV (x ^^^ y) = bitV x ^^^ bitV y := by
  unfold bitV
  rw [msb_xor, BitVec.shiftLeft_xor_distrib]
  cases x.msb <;> cases y.msb
  · rfl
  · show x <<< 1 ^^^ y <<< 1 ^^^ 4129#16 = _
    rw [BitVec.xor_assoc]; rfl
  · show x <<< 1 ^^^ y <<< 1 ^^^ 4129#16 = x <<< 1 ^^^ 4129#16 ^^^ y <<< 1
    rw [BitVec.xor_assoc, BitVec.xor_assoc, BitVec.xor_comm (y <<< 1)]
  · show x <<< 1 ^^^ y <<< 1 = (x <<< 1 ^^^ 4129#16) ^^^ (y <<< 1 ^^^ 4129#16)
    rw [BitVec.xor_comm (y <<< 1) (4129#16), BitVec.xor_assoc, ← BitVec.xor_assoc (4129#16), BitVec.xor_self, BitVec.zero_xor]
theorem bitsV_xor (x y : V16) (k : Nat) : bitsV (x ^^^ y) k = bitsV x k ^^^ bitsV y k := by
  induction k with
  | zero => rfl
  | succ k ih => rw [bitsV, ih, bitV_xor]; rfl
theorem bitV_zero {x : V16} (h : bitV x = 0#16) : x = 0#16 := by
  unfold bitV at h
  cases hm : x.msb with
  | true =>
    rw [hm, if_pos rfl] at h
    have := congrArg (fun v : V16 => v.getLsbD 0) h
    simp at this
  | false =>
    rw [hm, if_neg (by decide)] at h
    apply BitVec.eq_of_getLsbD_eq
    intro i hi
    have h2 := congrArg (fun v : V16 => v.getLsbD (i + 1)) h
    simp only [BitVec.getLsbD_shiftLeft] at h2
    by_cases hl : i = 15
    · subst hl
      rw [BitVec.msb_eq_getLsbD_last] at hm
      simpa using hm
    · have h3 : i + 1 < 16 := by omega
      simpa [h3] using h2
theorem bitsV_zero {x : V16} (k : Nat) (h : bitsV x k = 0#16) : x = 0#16 := by
  induction k with
  | zero => exact h
  | succ k ih => exact ih (bitV_zero h)
theorem bitsV_inj {x y : V16} (k : Nat) (h : bitsV x k = bitsV y k) : x = y := by
  have : x ^^^ y = 0#16 := bitsV_zero k (by rw [bitsV_xor, h, BitVec.xor_self])
  exact BitVec.xor_eq_zero_iff.1 this
theorem byteV_inj {x y : V16} (c : Int) (h : byteV x c = byteV y c) : x = y := by
  have := bitsV_inj 8 h
  have h2 := congrArg (· ^^^ (BitVec.ofInt 16 c <<< 8)) this
  simpa [BitVec.xor_assoc] using h2
theorem byteV_byte {x : V16} {c d : Int} (hc : 0 ≤ c ∧ c < 256) (hd : 0 ≤ d ∧ d < 256) (h : byteV x c = byteV x d) : c = d := by
  have := bitsV_inj 8 h
  have h2 := congrArg (x ^^^ ·) this
  simp only [← BitVec.xor_assoc, BitVec.xor_self, BitVec.zero_xor] at h2
  have h3 := congrArg tI h2
  rw [tI_shl, tI_shl, tI_ofInt, tI_ofInt] at h3
  omega
theorem crcV_inj {x y : V16} (l : List Int) (h : crcV x l = crcV y l) : x = y := by
  induction l generalizing x y with
  | nil => exact h
  | cons c l ih => exact byteV_inj c (ih h)
theorem crcV_append (x : V16) (a b : List Int) : crcV x (a ++ b) = crcV (crcV x a) b := List.foldl_append
theorem bitsV_0 (k : Nat) : bitsV 0#16 k = 0#16 := by
  induction k with
  | zero => rfl
  | succ k ih => rw [bitsV, ih]; rfl
theorem crcV_zeros (k : Nat) : crcV 0#16 (List.replicate k 0) = 0#16 := by
  induction k with
  | zero => rfl
  | succ k ih => rw [List.replicate_succ]; exact ih
theorem byteV_xor (x y : V16) (a b : Int) (ha : 0 ≤ a ∧ a < 256) (hb : 0 ≤ b ∧ b < 256) : byteV (x ^^^ y) (((a.toNat ^^^ b.toNat : Nat)) : Int) = byteV x a ^^^ byteV y b := by
  unfold byteV
  rw [← bitsV_xor]
  congr 1
  have : (BitVec.ofInt 16 (((a.toNat ^^^ b.toNat : Nat)) : Int)) = BitVec.ofInt 16 a ^^^ BitVec.ofInt 16 b := by
    obtain ⟨m, rfl⟩ := Int.eq_ofNat_of_zero_le ha.1
    obtain ⟨n, rfl⟩ := Int.eq_ofNat_of_zero_le hb.1
    simp only [Int.toNat_natCast, BitVec.ofInt_natCast]
    apply BitVec.eq_of_toNat_eq
    rw [BitVec.toNat_xor, BitVec.toNat_ofNat, BitVec.toNat_ofNat, BitVec.toNat_ofNat, Nat.xor_mod_two_pow]
  rw [this, BitVec.shiftLeft_xor_distrib]
  simp only [BitVec.xor_assoc]
  congr 1
  rw [← BitVec.xor_assoc, ← BitVec.xor_assoc, BitVec.xor_comm y]
def xorL : List Int → List Int → List Int
  | a :: l, b :: m => ((a.toNat ^^^ b.toNat : Nat) : Int) :: xorL l m
  | _, _ => []
theorem crcV_xor (x y : V16) (l m : List Int) (h : l.length = m.length) (hl : ∀ a ∈ l, 0 ≤ a ∧ a < 256) (hm : ∀ a ∈ m, 0 ≤ a ∧ a < 256) : crcV (x ^^^ y) (xorL l m) = crcV x l ^^^ crcV y m := by
  induction l generalizing m x y with
  | nil =>
    cases m with
    | nil => rfl
    | cons b m => simp at h
  | cons a l ih =>
    cases m with
    | nil => simp at h
    | cons b m =>
      show crcV (byteV (x ^^^ y) _) (xorL l m) = crcV (byteV x a) l ^^^ crcV (byteV y b) m
      rw [byteV_xor x y a b (hl a (by simp)) (hm b (by simp))]
      exact ih _ _ m (by simpa using h) (fun c hc => hl c (by simp [hc])) (fun c hc => hm c (by simp [hc]))

theorem take_rd {l : List Int} {k : Nat} (h : k < l.length) : l.take (k + 1) = l.take k ++ [rd l k] := by
  rw [List.take_add_one]
  congr 1
  rw [rd]
  simp [h]
theorem reg_v (sum : Int) (l : List Int) (k : Nat) (h : k ≤ l.length) : regN sum l k = tI (crcV (BitVec.ofInt 16 sum) (l.take k)) := by
  induction k with
  | zero => rw [regN, IntKind.wrap_u16, List.take_zero, ← tI_ofInt]; rfl
  | succ k ih =>
    rw [regN, ih (by omega), byte_v, take_rd (by omega), crcV_append]
    rfl
theorem more_v (sum : Int) (A : Option Addr) (c : Nat) (l : List Int) (w : World) (hr : ReadsInt w .u8 A l.length l) (hl : l.length ≤ 140737488355328) :
    Calls Try.prog 134 #[.int .i64 sum, .slice A l.length c] w fun e w' => e = .returned (.int .i64 (tI (crcV (BitVec.ofInt 16 sum) l))) ∧ Below w.heap.size w w' := by
  have hw : wrap64 (regN sum l l.length) = tI (crcV (BitVec.ofInt 16 sum) l) := by
    rw [reg_v sum l _ (Nat.le_refl _), List.take_of_length_le (Nat.le_refl _)]
    have := tI_lt (crcV (BitVec.ofInt 16 sum) l)
    unfold wrap64
    omega
  exact more_calls sum A c l _ w (Kd.C_of_reads (d := (0 : Int)) (h1 := fun _ => rfl) hr) (by rw [moreF, if_pos hl, hw])
end Go.Proofs.Ytbfogcckbhkciaa.Hand
namespace Go.Proofs.Ytbfogcckbhkciaa.Hand
open Go.RowKit Go.Proofs.YtbfogcckbhkciaaW.PrintWords

theorem xor_step (x k : Nat) : x % 2 ^ (k + 1) = x % 2 ^ k + 2 ^ k * (x / 2 ^ k % 2) := by
  rw [Nat.pow_succ, Nat.mod_mul]
theorem xor_div (a b k : Nat) : (a ^^^ b) / 2 ^ k = a / 2 ^ k ^^^ b / 2 ^ k := by
  rw [← Nat.shiftRight_eq_div_pow, ← Nat.shiftRight_eq_div_pow, ← Nat.shiftRight_eq_div_pow, Nat.shiftRight_xor_distrib]
theorem xor_odd (a b : Nat) : (a ^^^ b) % 2 = if a % 2 = b % 2 then 0 else 1 := by
  have := Nat.xor_mod_two_pow (a := a) (b := b) (n := 1)
  rw [Nat.pow_one] at this
  rw [this]
  rcases Nat.mod_two_eq_zero_or_one a with h | h <;> rcases Nat.mod_two_eq_zero_or_one b with h2 | h2 <;> rw [h, h2] <;> rfl
theorem rXor_calls (x y : V16) (w : World) : Calls Try.prog 149 #[.int .i64 (tI x), .int .i64 (tI y)] w fun e w' => e = .returned (.int .i64 (tI (x ^^^ y))) ∧ w = w' := by
  have hx := x.isLt
  have hy := y.isLt
  rw [show tI (x ^^^ y) = ((x.toNat ^^^ y.toNat : Nat) : Int) by rw [tI, BitVec.toNat_xor]]
  unfold tI at *
  have HX : Aside0 ((x.toNat ^^^ y.toNat) < 65536) := ⟨Nat.xor_lt_two_pow (n := 16) hx hy⟩
  generalize x.toNat = A at *
  generalize y.toNat = B at *
  go_enter Try.func149, Try.ntmps149
  go_wp2
  go_loop [0, 1, 5, 6, 7] (fun a b o t i => ∃ k p q m u : Nat, k ≤ 16 ∧ i = .int .i64 k ∧ a = .int .i64 p ∧ b = .int .i64 q ∧ o = .int .i64 m ∧ t = .int .i64 u ∧ Aside0 (p = A / 2 ^ k ∧ q = B / 2 ^ k ∧ m = (A ^^^ B) % 2 ^ k ∧ u = 2 ^ k)) (fun _ _ _ _ i => (16 - intOf i).toNat)
  case atStart => exact ⟨0, A, B, 0, 1, by omega, rfl, rfl, rfl, rfl, rfl, ⟨by simp, by simp, by simp [Nat.mod_one], rfl⟩⟩
  case round =>
    obtain ⟨k, p, q, m, u, hk, rfl, rfl, rfl, rfl, rfl, HP⟩ := hrel
    by_cases hlt : k < 16
    · have hu : u ≤ 32768 := by
        rw [HP.out.2.2.2]
        exact Nat.pow_le_pow_right (n := 2) (by decide) (show k ≤ 15 by omega)
      have hm : m < u := by
        rw [HP.out.2.2.1, HP.out.2.2.2]
        exact Nat.mod_lt _ (Nat.pow_pos (by decide))
      have hp : p < 65536 := by rw [HP.out.1]; exact Nat.lt_of_le_of_lt (Nat.div_le_self _ _) hx
      have hq : q < 65536 := by rw [HP.out.2.1]; exact Nat.lt_of_le_of_lt (Nat.div_le_self _ _) hy
      have HS := Aside0.mk (xor_step (A ^^^ B) k)
      rw [xor_div, ← HP.out.1, ← HP.out.2.1, ← HP.out.2.2.1, ← HP.out.2.2.2, xor_odd] at HS
      by_cases hpq : p % 2 = q % 2
      · have hd : (p : Int).tmod 2 = (q : Int).tmod 2 := by rw [Int.tmod_eq_emod_of_nonneg (by omega), Int.tmod_eq_emod_of_nonneg (by omega)]; omega
        rw [if_pos hpq] at HS
        clear hpq
        go_wp2
        go_round
        case rel => exact ⟨k + 1, p / 2, q / 2, m, u * 2, by omega, by go_num, congrArg _ (by omega), congrArg _ (by omega), rfl, congrArg _ (by omega), ⟨by rw [HP.out.1, Nat.div_div_eq_div_mul, Nat.pow_succ], by rw [HP.out.2.1, Nat.div_div_eq_div_mul, Nat.pow_succ], by rw [HS.out]; omega, by rw [HP.out.2.2.2, Nat.pow_succ]⟩⟩
        case measure => simp [intOf]; omega
      · rw [if_neg hpq] at HS
        go_wp2
        go_round
        case rel => exact ⟨k + 1, p / 2, q / 2, m + u, u * 2, by omega, by go_num, congrArg _ (by omega), congrArg _ (by omega), congrArg _ (by omega), congrArg _ (by omega), ⟨by rw [HP.out.1, Nat.div_div_eq_div_mul, Nat.pow_succ], by rw [HP.out.2.1, Nat.div_div_eq_div_mul, Nat.pow_succ], by rw [HS.out]; omega, by rw [HP.out.2.2.2, Nat.pow_succ]⟩⟩
        case measure => simp [intOf]; omega
    · obtain rfl : k = 16 := by omega
      go_wp2
      go_ret
      refine ⟨?_, rfl⟩
      have h1 := HP.out.2.2.1
      have h2 := HX.out
      rw [Nat.mod_eq_of_lt h2] at h1
      subst h1
      rfl
theorem rLow_calls (n : Int) (w : World) : Calls Try.prog 148 #[.int .i64 n] w fun e w' => e = .returned (.int .i64 (tI (BitVec.ofInt 16 n))) ∧ w = w' := by
  rw [tI_ofInt]
  have t1 := Int.tmod_lt_of_pos n (b := 65536) (by decide)
  have t2 := Int.lt_tmod_of_pos n (b := 65536) (by decide)
  have HT := Aside0.mk (Int.tmod_add_mul_tdiv n 65536)
  by_cases h : n.tmod 65536 < 0
  · go_enter Try.func148, Try.ntmps148
    go_wp2
    go_ret
    refine ⟨congrArg (fun x => Ending.returned (Value.int .i64 x)) ?_, rfl⟩
    have := HT.out
    omega
  · go_enter Try.func148, Try.ntmps148
    go_wp2
    go_ret
    refine ⟨congrArg (fun x => Ending.returned (Value.int .i64 x)) ?_, rfl⟩
    have := HT.out
    omega
theorem calls_at' {P : Program} {f : FuncId} {args args' : Array Value} {w : World} {Q : Ending → World → Prop} (h : args = args') (hc : Calls P f args' w Q) : Calls P f args w Q := h ▸ hc
theorem tI_two (x : V16) : tI (x <<< 1) = if 32768 ≤ tI x then tI x * 2 - 65536 else tI x * 2 := by
  have := tI_lt x
  rw [tI_shl]
  split <;> omega
theorem bitV_if (x : V16) : bitV x = if 32768 ≤ tI x then (x <<< 1) ^^^ 4129#16 else x <<< 1 := by
  have : x.msb = decide (32768 ≤ tI x) := by
    rw [BitVec.msb_eq_decide]
    refine decide_eq_decide.2 ?_
    unfold tI
    constructor <;> intro h <;> omega
  rw [bitV, this]
  simp
theorem rMore_calls (sum : Int) (s : ByteArray) (hs : s.size ≤ 140737488355328) (w : World) :
    Calls Try.prog 132 #[.int .i64 sum, .string s] w fun e w' => e = .returned (.int .i64 (tI (crcV (BitVec.ofInt 16 sum) (bytesOf s)))) ∧ w = w' := by
  go_enter Try.func132, Try.ntmps132
  go_wp2_with (go_at_call 148; refine (rLow_calls sum _).mono ?_; rintro e w1 ⟨rfl, rfl⟩)
  have hL := bytesOf_length s
  go_loop [5, 6] (fun n i => ∃ (k : Nat) (x : V16), k ≤ s.size ∧ i = .int .i64 k ∧ n = .int .i64 (tI x) ∧ Aside0 (x = crcV (BitVec.ofInt 16 sum) ((bytesOf s).take k))) (fun _ i => (s.size - intOf i).toNat)
  case atStart => exact ⟨0, _, Nat.zero_le _, rfl, rfl, ⟨rfl⟩⟩
  case round =>
    obtain ⟨k, x, hk, rfl, rfl, HX⟩ := hrel
    by_cases hlt : k < s.size
    · have hb : ∀ h : k < s.size, ((s[k]'h).toNat : Int) = bt s k := bt_at s k
      have hw : wrap64 (wrap64 (bt s k) * 256) = bt s k * 256 := by
        have := bt_range s k
        unfold wrap64
        omega
      obtain ⟨hb2, hb3⟩ := bt_range s k
      have HS := Aside0.mk (take_rd (l := bytesOf s) (k := k) (by omega))
      rw [rd_bytesOf] at HS
      have HE := Aside0.mk (show tI (BitVec.ofInt 16 (bt s k) <<< 8) = bt s k * 256 by rw [tI_shl, tI_ofInt]; omega)
      go_wp2_with (go_at_call 149; (refine (calls_at' (by rw [HE.out]) (rXor_calls x (BitVec.ofInt 16 (bt s k) <<< 8) _)).mono ?_); rintro e w1 ⟨rfl, rfl⟩)
      clear hb hw hb2 hb3
      obtain ⟨z, hz⟩ : ∃ z, z = x ^^^ (BitVec.ofInt 16 (bt s k) <<< 8) := ⟨_, rfl⟩
      rw [← hz]
      have HZ := Aside0.mk hz
      clear hz
      go_loop [5, 7] (fun n i => ∃ (j : Nat) (y : V16), j ≤ 8 ∧ i = .int .i64 j ∧ n = .int .i64 (tI y) ∧ Aside0 (y = bitsV z j)) (fun _ i => (8 - intOf i).toNat)
      case atStart => exact ⟨0, z, by omega, rfl, rfl, ⟨rfl⟩⟩
      case round =>
        obtain ⟨j, y, hj, rfl, rfl, HY⟩ := hrel
        by_cases hlt : j < 8
        · obtain ⟨hy0, hy1⟩ := tI_lt y
          have HB := Aside0.mk (bitV_if y)
          have HT := Aside0.mk (tI_two y)
          generalize tI y = n at HB HT hy0 hy1 ⊢
          by_cases hm : 32768 ≤ n
          · rw [if_pos hm] at HB HT
            go_wp2_with (go_at_call 149; (refine (calls_at' (by rw [HT.out]; rfl) (rXor_calls (y <<< 1) 4129#16 _)).mono ?_); rintro e w1 ⟨rfl, rfl⟩)
            go_round
            case rel => exact ⟨j + 1, _, by omega, by go_num, rfl, ⟨by rw [bitsV, ← HY.out, HB.out]⟩⟩
            case measure => simp [intOf]; omega
          · rw [if_neg hm] at HB HT
            go_wp2
            go_round
            case rel => exact ⟨j + 1, _, by omega, by go_num, by rw [HT.out], ⟨by rw [bitsV, ← HY.out, HB.out]⟩⟩
            case measure => simp [intOf]; omega
        · obtain rfl : j = 8 := by omega
          go_wp2
          go_round
          case rel => exact ⟨k + 1, _, by omega, by go_num, rfl, ⟨by rw [HS.out, crcV_append, HY.out, HZ.out, HX.out]; rfl⟩⟩
          case measure => simp [intOf]; omega
    · obtain rfl : k = s.size := by omega
      have HE := Aside0.mk (List.take_of_length_le (Nat.le_of_eq hL))
      go_wp2
      go_ret
      rw [HX.out, HE.out]
      exact ⟨rfl, rfl⟩
end Go.Proofs.Ytbfogcckbhkciaa.Hand
namespace Go.Proofs.Ytbfogcckbhkciaa.Hand
open Go.RowKit Go.Proofs.YtbfogcckbhkciaaW.PrintWords

abbrev Part := Option Addr × Nat × List Int
def sumV (x : V16) (ps : List Part) : V16 := ps.foldl (fun x p => crcV x p.2.2) x
theorem ofInt_tI (x : V16) : BitVec.ofInt 16 (tI x) = x := by
  apply tI_inj
  rw [tI_ofInt]
  have := tI_lt x
  omega
theorem sum_calls (ps : List Part) (a : Addr) (c : Nat) (w : World) (hc : ∀ j (h : j < ps.length), w.cell? (a.add j) = some (.slice (ps[j]).1 (ps[j]).2.2.length (ps[j]).2.1))
    (hr : ∀ j (h : j < ps.length), ReadsInt w .u8 (ps[j]).1 (ps[j]).2.2.length (ps[j]).2.2 ∧ (ps[j]).2.2.length ≤ 140737488355328) (hl : ps.length ≤ 1000) :
    Calls Try.prog 123 #[.slice (some a) ps.length c] w fun e w' => e = .returned (.int .i64 (tI (sumV 0#16 ps))) ∧ Below w.heap.size w w' := by
  have HC := Aside0.mk hc
  have HR := Aside0.mk hr
  clear hc hr
  go_enter Try.func123, Try.ntmps123
  go_wp2
  go_loopw [3, 8] (fun n i wr => ∃ (k : Nat) (x : V16), k ≤ ps.length ∧ i = .int .i64 k ∧ n = .int .i64 (tI x) ∧ Aside0 (x = sumV 0#16 (ps.take k)) ∧ Aside0 (Below w.heap.size w wr)) (fun _ i _ => (ps.length - intOf i).toNat)
  case atStart => exact ⟨0, 0#16, Nat.zero_le _, rfl, rfl, ⟨rfl⟩, ⟨Below.refl _ _⟩⟩
  case round =>
    obtain ⟨k, x, hk, rfl, rfl, HX, HB⟩ := hrel
    by_cases hlt : k < ps.length
    · have hc := HC.out k hlt
      have HL := Aside0.mk (HR.out k hlt)
      have HT := Aside0.mk (show ps.take (k + 1) = ps.take k ++ [ps[k]] by rw [List.take_succ_eq_append_getElem hlt])
      obtain ⟨p, hp⟩ : ∃ p, p = ps[k] := ⟨_, rfl⟩
      rw [← hp] at hc HL HT
      have hc1 : wr.cell? (a.add k) = some (.slice p.1 p.2.2.length p.2.1) := (HB.out.cell (World.block_lt_of_cell? w _ hc)).trans hc
      clear hc hp
      go_wp2_with (go_at_call 134; (with_reducible refine (more_v (tI x) p.1 p.2.1 p.2.2 _ (HL.out.1.below HB.out) HL.out.2).mono ?_); rintro e w1 ⟨rfl, hb1⟩; have HB1 := Aside0.mk (bel_step HB.out hb1); clear hb1)
      go_roundw
      case rel => exact ⟨k + 1, crcV x p.2.2, by omega, by go_num, by rw [ofInt_tI], ⟨by rw [HT.out, sumV, List.foldl_append, HX.out]; rfl⟩, HB1⟩
      case measure => simp [intOf]; omega
    · obtain rfl : k = ps.length := by omega
      go_wp2
      go_ret
      rw [HX.out, List.take_of_length_le (Nat.le_refl _)]
      exact ⟨rfl, HB.out⟩
theorem reads_take {w : World} {A : Option Addr} {l : List Int} {k : Nat} (hk : k ≤ l.length) (h : ReadsInt w .u8 A l.length l) : ReadsInt w .u8 A (l.take k).length (l.take k) := by
  have hl : (l.take k).length = k := by rw [List.length_take]; omega
  refine ⟨rfl, by have := h.2.1; omega, fun h0 => ?_⟩
  obtain ⟨ad, e, hx⟩ := h.2.2 (by omega)
  refine ⟨ad, e, fun j hj => ?_⟩
  rw [hx j (by omega), List.getD_eq_getElem?_getD, List.getD_eq_getElem?_getD, List.getElem?_take_of_lt (by omega)]
/-- The sum of bytes. -/
def crcI (l : List Int) : Int := tI (crcV 0#16 l)
def sealL (l : List Int) : List Int := l ++ leB (crcI l) 2
theorem sealL_length (l : List Int) : (sealL l).length = l.length + 2 := by rw [sealL, List.length_append, leB_length]
theorem sum_one (l : List Int) (A : Option Addr) (c g n : Nat) (w : World) (hg : w.heap[g]? = some (.cells #[.slice A l.length c] 23 (0, 0))) (hr : ReadsInt w .u8 A l.length l) (hl : l.length ≤ 140737488355328) :
    Calls Try.prog 123 #[.slice (some ⟨g, 0, none⟩) 1 n] w fun e w' => e = .returned (.int .i64 (crcI l)) ∧ Below w.heap.size w w' :=
  sum_calls [(A, c, l)] ⟨g, 0, none⟩ n w (fun j h => by
    obtain rfl : j = 0 := by simpa using h
    simpa [Addr.add] using cell_of_one hg) (fun j h => by
    obtain rfl : j = 0 := by simpa using h
    exact ⟨hr, hl⟩) (by simp)
set_option maxHeartbeats 1000000 in
theorem seal_calls (A : Option Addr) (c : Nat) (l : List Int) (w : World) (hr : ReadsInt w .u8 A l.length l) (hl : l.length + 8 ≤ 140737488355328) :
    Calls Try.prog 93 #[.slice A l.length c] w fun e w' => ∃ v : Value, e = .returned v ∧ Kd.R (Kd.int .u8) 5 w' 0 (New w) v (sealL l) ∧ Below w.heap.size w w' := by
  have HR := Aside0.mk hr
  obtain ⟨hc0, hc1⟩ : 0 ≤ crcI l ∧ crcI l < 65536 := tI_lt _
  have HP := Aside0.mk (show fitsB (crcI l) 2 = true by rw [fits_one _ 2 hc0 (by omega)]; simp [rfitsB, rightB, topN]; omega)
  clear hr
  go_enter Try.func93, Try.ntmps93
  go_wp2_with (first | (go_at_call 61; (with_reducible refine (clone_bytes A c l w HR.out (by omega)).mono ?_); rintro e w1 ⟨v1, rfl, hr1, hb1⟩; have HR1 := Aside0.mk (own_new hr1 (Nat.le_refl _)); have HB1 := Aside0.mk hb1; clear hr1 hb1) | (go_at_call 123; (with_reducible refine (sum_one l A c w1.heap.size 1 _ (heap_alloc_new w1 _) (HR.out.below (below_alloc HB1.out _)) (by omega)).mono ?_); rintro e w2 ⟨rfl, hb2⟩; have HB2 := Aside0.mk (bel_step (below_alloc HB1.out _) hb2); have HR2 := Aside0.mk (Kd.R_below HR1.out (bel_step (below_alloc (Below.refl _ _) _) hb2)); clear hb2) | (go_at_call 92; (with_reducible refine (put_any (New w) v1 l 2 (crcI l) _ HR2.out (by omega)).mono ?_); rw [HP.out]; rintro e w3 ⟨v3, rfl, hr3, hf3⟩; have HR3 := Aside0.mk hr3; have HB3 := Aside0.mk (HB2.out.trans (hf3.below _ HB2.out.size (fun b hb => hb))); clear hr3 hf3))
  go_ret
  have h3 := HR3.out
  rw [putL_two hc0 hc1] at h3
  refine ⟨_, rfl, Kd.R_mono h3 (fun k hk => ?_), HB3.out⟩
  rcases hk with hk | hk
  · exact hk
  · exact Nat.le_trans HB2.out.size hk
/-- What Open answers. -/
def openB (l : List Int) : Bool := decide (2 ≤ l.length) && decide (sealL (l.take (l.length - 2)) = l)
def openL (l : List Int) : List Int := if openB l then l.take (l.length - 2) else []
end Go.Proofs.Ytbfogcckbhkciaa.Hand
