/- Loose, Copy, Of and New of a device. -/
import Derived.Test.YtbfogcckbhkciaaHandPm5
import Derived.Test.YtbfogcckbhkciaaHandShelfP
namespace Go.Proofs.Ytbfogcckbhkciaa.Hand
open Go.RowKit Go.Maps Go.Sort Go.Shelf Go.Proofs.YtbfogcckbhkciaaW.PrintWords
set_option linter.unusedVariables false

theorem sorts_int (m : Nat) : AnyZI.SortsIn Try.prog Try.sortedA_ren Fence.wide m :=
  ⟨fun blk off cap ss W hH hblk hsz => callsIn_wide.2 (AnyM.slices_Sort_int Try.sortA blk off cap ss W hH hblk hsz),
   fun p cap W => callsIn_wide.2 (AnyM.slices_Sort_int_none Try.sortA p cap W)⟩
/-- The loose words, rising. -/
def looseM (d : Dev) : List Int := ((List.range (d.B.length / 8)).filter fun k => (d.S k).isSome).map fun (k : Nat) => (k : Int)
theorem looseM_mem {d : Dev} (h : d.Ok) (x : Int) : x ∈ looseM d ↔ (safeF d.S (.int .i64 x)).isSome = true := by
  rw [looseM, List.mem_map]
  constructor
  · rintro ⟨k, hk, rfl⟩
    rw [List.mem_filter] at hk
    rw [safeF_nat, Option.isSome_map]
    exact hk.2
  · intro hx
    obtain ⟨k, e, hs⟩ := safeF_some hx
    simp only [Lit.int.injEq, true_and] at e
    refine ⟨k, List.mem_filter.2 ⟨List.mem_range.2 ?_, hs⟩, e.symm⟩
    have := h.dom k hs
    omega
theorem looseM_lt (d : Dev) : (looseM d).Pairwise (fun a b => a < b) := by
  rw [looseM, List.pairwise_map]
  refine List.Pairwise.imp ?_ (List.Pairwise.filter _ List.pairwise_lt_range)
  intro a b h
  omega
theorem looseM_sorted {d : Dev} {D : DataW Value} {w : World} {b n : Nat} (h : d.Ok) (hown : w.ownsMap Try.prog 3 heldR b n D) (hf : Fits D (safeF d.S)) {ss : List Int} (hp : ss.Perm (intKeys D)) : ss.mergeSort (fun x y => decide (x ≤ y)) = looseM d ∧ ss.length = (looseM d).length := by
  obtain ⟨es, hD, hpw, _⟩ := hown.entries law_int
  obtain ⟨es', hD', hko⟩ := hown.keysOf
  obtain rfl : es = es' := by rw [hD] at hD'; simpa using hD'
  subst hD
  have hnd : (looseM d).Nodup := (looseM_lt d).imp (fun h => by omega)
  have h1 : (looseM d).Perm (intKeys (.map es)) := perm_intKeys hpw (fun p hp => by
    obtain ⟨key, hk⟩ := hko p hp
    obtain ⟨x, _, e, _⟩ := Maps.keyOf_int_inv Try.underlying3 hk
    exact ⟨x, e⟩) hnd (fun x => by rw [looseM_mem h x, (hf _).1])
  have h2 := hp.trans h1.symm
  refine ⟨?_, h2.length_eq⟩
  rw [mergeSort_of_perm_i h2]
  exact List.mergeSort_of_pairwise ((looseM_lt d).imp (fun h => by simp only [decide_eq_true_eq]; omega))
theorem loose_calls (w : World) (p : Nat) (v : Value) (s f : Nat) (d : Dev) (h : HasD w p v s f d) :
    Calls Try.prog 26 #[.pointer (some ⟨p, 0, none⟩)] w fun e w' => ∃ u : Value, e = .returned u ∧ Kd.R (Kd.int .i64) 3 w' w.heap.size (fun _ => True) u (looseM d) ∧ Below w.heap.size w w' := by
  have c1 := blk_cell h.ptr (i := 1) rfl
  obtain ⟨D, hD, hfit⟩ := h.safe
  have hsz : Maps.size D ≤ 8192 := size_le_of_room law_int hD hfit h.ok.roomS
  refine (callsIn_wide (n := 6)).1 ?_
  have hseq : SeqGives Fence.wide 2 Try.prog 111 #[.pointer (some ⟨w.heap.size, 0, none⟩)] encZ (fun ss => ss.Perm (intKeys D)) (Maps.size D) (w.alloc (.cells #[.map (some s)] 110)) :=
    AnyZI.keys_gives (ρ := Try.keysA_ren) { Try.keysA with } Fence.wide _ trivial rfl (by omega) w.heap.size s (Maps.size D) D _ (by simp) (by simp) (hD.alloc _)
  have cK : ∀ mb W, CallsIn Fence.wide 5 Try.prog 68 #[.map mb] W fun e w' => e = .returned (.func (.func 111) #[] #[.pointer (some ⟨W.heap.size, 0, none⟩)]) ∧ w' = W.alloc (.cells #[.map mb] 110) := fun mb W => AnyZI.keys_in Try.keysA Fence.wide 5 trivial rfl mb W
  have cS := AnyZI.sorted_in Try.sortedA Fence.wide 5 trivial trivial trivial trivial rfl (by omega) (sorts_int _) (enters_of Try.func110 (by kernel_rfl) rfl) 111 #[.pointer (some ⟨w.heap.size, 0, none⟩)] trivial (enters_of Try.func111 (by kernel_rfl) rfl) _ _ (by unfold maxLen; omega) (by omega) _ hseq
  change CallsIn _ _ Try.prog 67 _ _ _ at cS
  have hfK : Fence.wide.fn 68 := trivial
  have hfS : Fence.wide.fn 67 := trivial
  refine callsIn_of_wp Try.func26 rfl trivial ?_ rfl
  simp only [Try.ntmps26, List.size_toArray, List.length_cons, List.length_nil, Nat.reduceAdd, Nat.reduceSub, Array.replicate_succ, Array.replicate_zero, List.push_toArray, List.append_toArray, List.nil_append, List.cons_append]
  have HD := Aside0.mk hD
  have HFIT := Aside0.mk hfit
  have HOK := Aside0.mk h.ok
  clear h hD hfit hseq hsz
  gi_wp2_with (first | (gi_at_call 68; refine (cK _ _).mono ?_; rintro e w' ⟨rfl, rfl⟩) | (gi_at_call 67; refine cS.mono ?_; rintro e w' ⟨u, ss, rfl, hS, hrow, hnil, hb⟩))
  go_ret
  obtain ⟨h1, h2⟩ := looseM_sorted HOK.out HD.out HFIT.out hS
  rw [h1, h2] at hrow
  refine ⟨u, rfl, Kd.R_of_own (ownsRow_base_a hrow (by simp)) (fun _ _ => trivial), ?_⟩
  exact ((Below.refl _ w).alloc (Nat.le_refl _) _).trans (hb.mono (by simp))
/-- slices.Clone of a device's maps. -/
theorem cloneS_calls (w : World) (s : Nat) (S : Nat → Option (List Int)) (h : MapF Try.prog 3 w s (safeF S)) :
    Calls Try.prog 70 #[.map (some s)] w fun e w' => e = .returned (.map (some w.heap.size)) ∧ MapF Try.prog 3 w' w.heap.size (safeF S) ∧ Below w.heap.size w w' := by
  obtain ⟨D, hD, hfit⟩ := h
  have hcon := AnyW.maps_Clone_owns Try.cloneA 3 heldR s _ D w hD
  change Calls Try.prog 70 _ _ _ at hcon
  refine hcon.mono ?_
  rintro e w' ⟨rfl, h1, _, hB⟩
  exact ⟨rfl, MapF.of_own h1 hfit, hB⟩
theorem cloneF_calls (w : World) (s : Nat) (S : Nat → Bool) (h : MapF Try.prog 3 w s (flF S)) :
    Calls Try.prog 71 #[.map (some s)] w fun e w' => e = .returned (.map (some w.heap.size)) ∧ MapF Try.prog 3 w' w.heap.size (flF S) ∧ Below w.heap.size w w' := by
  obtain ⟨D, hD, hfit⟩ := h
  have hcon := AnyW.maps_Clone_owns Try.cloneB 3 heldR s _ D w hD
  change Calls Try.prog 71 _ _ _ at hcon
  refine hcon.mono ?_
  rintro e w' ⟨rfl, h1, _, hB⟩
  exact ⟨rfl, MapF.of_own h1 hfit, hB⟩
end Go.Proofs.Ytbfogcckbhkciaa.Hand
