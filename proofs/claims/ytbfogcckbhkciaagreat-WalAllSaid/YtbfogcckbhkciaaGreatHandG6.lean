/- What a claim needs of the walks and contracts, part 6. -/
import Derived.Deep.RegionHeld
import Derived.RangeFuncNested
import Derived.RangeFuncBound
import Derived.RangeFuncCalls
import Derived.RangeFuncLeaves
import Derived.RangeFuncWrites
import Derived.RangeFuncBox
import Derived.Shelf.Abstract
import Derived.Shelf.RegionOpen
import Derived.WalkKit
import Derived.OwnWalkIn
import Derived.TacticsInMore
import Derived.LoopNIn
import Derived.LoopIn
import Derived.Maps.AppendAt
import Derived.Test.YtbfogcckbhkciaaGreatHandG5
namespace Go.Proofs.YtbfogcckbhkciaaGreat.Hand
set_option linter.unusedVariables false
set_option linter.unusedSimpArgs false
open Go.RowKit Go.Maps Go.Proofs.YtbfogcckbhkciaaGreatW.PrintWords Go.Proofs.YtbfogcckbhkciaaGreatW.PrintLast
set_option linter.unusedVariables false
set_option linter.unusedSimpArgs false
inductive StepW where
  | wr (bl ba bx : Nat)
  | fl (bl ba bn : Nat)
  | fe (p : Nat)
def encW : StepW → Value
  | .wr bl ba bx => .func (.func 71) #[] #[.pointer (some ⟨bl, 0, none⟩), .pointer (some ⟨ba, 0, none⟩), .pointer (some ⟨bx, 0, none⟩)]
  | .fl bl ba bn => .func (.func 72) #[] #[.pointer (some ⟨bl, 0, none⟩), .pointer (some ⟨ba, 0, none⟩), .pointer (some ⟨bn, 0, none⟩)]
  | .fe p => .func (.func 47) #[.pointer (some ⟨p, 0, none⟩)] #[]
theorem encW_one (x : StepW) : (encW x).oneCell' = true := by cases x <;> rfl
def SwK : Kd StepW := Kd.scalar encW encW_one
def IsW (w : World) (T : Nat → Prop) (q p : Nat) : StepW → StepM → Prop
  | .wr bl ba bx, .wr a l => T bl ∧ T ba ∧ T bx ∧ w.cell? ⟨bl, 0, none⟩ = some (.pointer (some ⟨q, 0, none⟩)) ∧ (∃ i : Nat, a = 8 * i ∧ i ≤ 8192 ∧ w.cell? ⟨ba, 0, none⟩ = some (.int .i64 i)) ∧
      l.length = 8 ∧ ∃ g o c, T g ∧ w.cell? ⟨bx, 0, none⟩ = some (.slice (some ⟨g, o, none⟩) 8 c) ∧ ReadsInt w .u8 (some ⟨g, o, none⟩) 8 l
  | .fl bl ba bn, .fl a n => T bl ∧ T ba ∧ T bn ∧ w.cell? ⟨bl, 0, none⟩ = some (.pointer (some ⟨q, 0, none⟩)) ∧ (∃ i : Nat, a = 8 * i ∧ i ≤ 8192 ∧ w.cell? ⟨ba, 0, none⟩ = some (.int .i64 i)) ∧ ∃ j : Nat, n = 8 * j ∧ j ≤ 8192 ∧ w.cell? ⟨bn, 0, none⟩ = some (.int .i64 j)
  | .fe r, .fe => r = p
  | _, _ => False
theorem IsW.move {w w1 : World} {T S : Nat → Prop} {q p : Nat} {x : StepW} {m : StepM} (h : IsW w T q p x m) (hf : Fr S w w1) (hs : ∀ b, T b → ¬ S b) : IsW w1 T q p x m := by
  cases x <;> cases m <;> simp only [IsW] at h ⊢
  · obtain ⟨h1, h2, h3, h4, ⟨i, h5, h5b, h5c⟩, h0, g, o, c, h6, h7, h8⟩ := h
    exact ⟨h1, h2, h3, hf.cell h4 (hs _ h1), ⟨i, h5, h5b, hf.cell h5c (hs _ h2)⟩, h0, g, o, c, h6, hf.cell h7 (hs _ h3), reads_frA h8 hf (fun _ ad e => by obtain rfl := Option.some.inj e; exact hs _ h6)⟩
  · obtain ⟨h1, h2, h3, h4, ⟨i, h5, h5b, h5c⟩, j, h6, h6b, h6c⟩ := h
    exact ⟨h1, h2, h3, hf.cell h4 (hs _ h1), ⟨i, h5, h5b, hf.cell h5c (hs _ h2)⟩, j, h6, h6b, hf.cell h6c (hs _ h3)⟩
  · exact h
theorem IsW.mono {w : World} {T T' : Nat → Prop} {q p : Nat} {x : StepW} {m : StepM} (h : IsW w T q p x m) (ht : ∀ b, b < w.heap.size → T b → T' b) : IsW w T' q p x m := by
  cases x <;> cases m <;> simp only [IsW] at h ⊢
  · obtain ⟨h1, h2, h3, h4, ⟨i, h5, h5b, h5c⟩, h0, g, o, c, h6, h7, h8⟩ := h
    refine ⟨ht _ (World.block_lt_of_cell? _ _ h4) h1, ht _ (World.block_lt_of_cell? _ _ h5c) h2, ht _ (World.block_lt_of_cell? _ _ h7) h3, h4, ⟨i, h5, h5b, h5c⟩, h0, ?_⟩
    obtain ⟨ad, e, hx⟩ := h8.2.2 (by decide)
    obtain rfl := Option.some.inj e
    have := World.block_lt_of_cell? _ _ (hx 0 (by decide))
    rw [add_plain] at this
    exact ⟨g, o, c, ht _ this h6, h7, h8⟩
  · obtain ⟨h1, h2, h3, h4, ⟨i, h5, h5b, h5c⟩, j, h6, h6b, h6c⟩ := h
    exact ⟨ht _ (World.block_lt_of_cell? _ _ h4) h1, ht _ (World.block_lt_of_cell? _ _ h5c) h2, ht _ (World.block_lt_of_cell? _ _ h6c) h3, h4, ⟨i, h5, h5b, h5c⟩, j, h6, h6b, h6c⟩
  · exact h
def AllW (w : World) (T : Nat → Prop) (q p : Nat) : List StepW → List StepM → Prop
  | [], [] => True
  | x :: xs, m :: ms => IsW w T q p x m ∧ AllW w T q p xs ms
  | _, _ => False
theorem AllW.move {w w1 : World} {T S : Nat → Prop} {q p : Nat} (hf : Fr S w w1) (hs : ∀ b, T b → ¬ S b) : ∀ {xs : List StepW} {ms : List StepM}, AllW w T q p xs ms → AllW w1 T q p xs ms
  | [], [], _ => trivial
  | x :: xs, m :: ms, h => ⟨h.1.move hf hs, AllW.move hf hs h.2⟩
theorem AllW.mono {w : World} {T T' : Nat → Prop} {q p : Nat} (ht : ∀ b, b < w.heap.size → T b → T' b) : ∀ {xs : List StepW} {ms : List StepM}, AllW w T q p xs ms → AllW w T' q p xs ms
  | [], [], _ => trivial
  | x :: xs, m :: ms, h => ⟨h.1.mono ht, AllW.mono ht h.2⟩
theorem AllW.app {w : World} {T : Nat → Prop} {q p : Nat} {ys : List StepW} {ns : List StepM} (h2 : AllW w T q p ys ns) : ∀ {xs : List StepW} {ms : List StepM}, AllW w T q p xs ms → AllW w T q p (xs ++ ys) (ms ++ ns)
  | [], [], _ => h2
  | x :: xs, m :: ms, h => ⟨h.1, AllW.app h2 h.2⟩
theorem AllW.len {w : World} {T : Nat → Prop} {q p : Nat} : ∀ {xs : List StepW} {ms : List StepM}, AllW w T q p xs ms → xs.length = ms.length
  | [], [], _ => rfl
  | x :: xs, m :: ms, h => by simp [AllW.len h.2]
theorem AllW.get {w : World} {T : Nat → Prop} {q p : Nat} : ∀ {xs : List StepW} {ms : List StepM} {k : Nat} {x : StepW}, AllW w T q p xs ms → xs[k]? = some x → ∃ m, ms[k]? = some m ∧ IsW w T q p x m
  | x :: xs, m :: ms, 0, y, h, hx => by
    simp only [List.getElem?_cons_zero, Option.some.injEq] at hx ⊢
    subst hx
    exact ⟨m, rfl, h.1⟩
  | x :: xs, m :: ms, k + 1, y, h, hx => by
    simp only [List.getElem?_cons_succ] at hx ⊢
    exact AllW.get h.2 hx
def StepsW (w : World) (p : Nat) (v : Value) (s f : Nat) (d : Dev) (m : StepM) (e : Ending) (w' : World) : Prop :=
  e = .returned (.tuple #[]) ∧ HasD w' p v s f (d.step m) ∧ Fr (OwnD v s f) w w'
set_option maxRecDepth 100000 in
theorem stepW_wr (w : World) (q p : Nat) (v : Value) (s f : Nat) (d : Dev) (T : Nat → Prop) (bl ba bx a : Nat) (l : List Int) (h : HasD w p v s f d) (hq : w.cell? ⟨q, 0, none⟩ = some (.pointer (some ⟨p, 0, none⟩))) (hst : IsW w T q p (.wr bl ba bx) (.wr a l)) (hok : Bys l) :
    Calls Tryz.prog 71 #[.pointer (some ⟨bl, 0, none⟩), .pointer (some ⟨ba, 0, none⟩), .pointer (some ⟨bx, 0, none⟩)] w (StepsW w p v s f d (.wr a l)) := by
  obtain ⟨_, _, _, h4, ⟨i, rfl, hi, h5⟩, h0, g, o, c, _, h7, h8⟩ := hst
  have k1 : IntKind.i64.wrap ((i : Int) * 8) = ((8 * i : Nat) : Int) := by rw [IntWalk.i64_in _ (by omega)]; omega
  by_cases hin : 8 * i + l.length ≤ d.B.length
  · have HE := Aside0.mk (show d.step (.wr (8 * i) l) = d.write (8 * i) l from if_pos hin)
    have HW := Aside0.mk (write_good w.drew p v s f d (8 * i) (some ⟨g, o, none⟩) 8 c l h0 (h.move (Below.refl _ _).drew) (h8.below (Below.refl _ _).drew) hok (by rw [insE_nat, if_pos (by omega)]))
    clear h hok h8
    go_enter Tryz.func71, Tryz.ntmps71
    go_wp2_with fail
    refine start_ (n := 8) (S := fun w' => w'.cell? ⟨bl, 0, none⟩ = some (.pointer (some ⟨q, 0, none⟩)) ∧ w'.cell? ⟨q, 0, none⟩ = some (.pointer (some ⟨p, 0, none⟩)) ∧ w'.cell? ⟨ba, 0, none⟩ = some (.int .i64 i) ∧ w'.cell? ⟨bx, 0, none⟩ = some (.slice (some ⟨g, o, none⟩) 8 c)) (ds := [7]) #[false, false, false, false, false, false, false, false] (by kernel_rfl) rfl rfl ⟨h4, hq, h5, h7⟩ (fun hHeld => ?_)
    refine take_ (i := 0) (N := some 3) (v := ?_) (a' := ?_) #[true, false, false, false, false, false, false, false] rfl rfl (by kernel_rfl) (fun _ _ _ h => h) (Or.inl ⟨by rfl, ?_⟩) hHeld ?_ ?_
    rotate_left
    · rintro w' ⟨s0, s1, s2, s3⟩
      go_simp
      with_reducible rfl
    rotate_left
    · simp only [Act.put, List.setIfInBounds_toArray, List.set_cons_zero, List.set_cons_succ, i64_w, i32_w]
      rfl
    refine pure_ (i := 1) (N := some 4) (v := ?_) (a' := ?_) #[true, true, false, false, false, false, false, false] rfl rfl (by kernel_rfl) (fun _ _ _ h => h) (Or.inl ⟨by rfl, ?_⟩) ?_ ?_
    rotate_left
    · intro w'
      go_simp
      with_reducible rfl
    rotate_left
    · simp only [Act.put, List.setIfInBounds_toArray, List.set_cons_zero, List.set_cons_succ, i64_w, i32_w]
      rfl
    refine pure_ (i := 2) (N := some 5) (v := ?_) (a' := ?_) #[true, true, true, false, false, false, false, false] rfl rfl (by kernel_rfl) (fun _ _ _ h => h) (Or.inl ⟨by rfl, ?_⟩) ?_ ?_
    rotate_left
    · intro w'
      go_simp
      with_reducible rfl
    rotate_left
    · simp only [Act.put, List.setIfInBounds_toArray, List.set_cons_zero, List.set_cons_succ, i64_w, i32_w]
      rfl
    refine take_ (i := 3) (N := some 6) (v := ?_) (a' := ?_) #[true, true, true, true, false, false, false, false] rfl rfl (by kernel_rfl) (fun _ _ _ h => h) (Or.inl ⟨by rfl, ?_⟩) hHeld ?_ ?_
    rotate_left
    · rintro w' ⟨s0, s1, s2, s3⟩
      go_simp
      with_reducible rfl
    rotate_left
    · simp only [Act.put, List.setIfInBounds_toArray, List.set_cons_zero, List.set_cons_succ, i64_w, i32_w]
      rfl
    refine take_ (i := 4) (N := some 7) (v := ?_) (a' := ?_) #[true, true, true, true, true, false, false, false] rfl rfl (by kernel_rfl) (fun _ _ _ h => h) (Or.inl ⟨by rfl, ?_⟩) hHeld ?_ ?_
    rotate_left
    · rintro w' ⟨s0, s1, s2, s3⟩
      go_simp
      with_reducible rfl
    rotate_left
    · simp only [Act.put, List.setIfInBounds_toArray, List.set_cons_zero, List.set_cons_succ, i64_w, i32_w]
      rfl
    refine pure_ (i := 5) (N := some 8) (v := ?_) (a' := ?_) #[true, true, true, true, true, true, false, false] rfl rfl (by kernel_rfl) (fun _ _ _ h => h) (Or.inl ⟨by rfl, ?_⟩) ?_ ?_
    rotate_left
    · intro w'
      go_simp
      with_reducible rfl
    rotate_left
    · simp only [Act.put, List.setIfInBounds_toArray, List.set_cons_zero, List.set_cons_succ, i64_w, i32_w]
      rfl
    refine take_ (i := 6) (N := some 9) (v := ?_) (a' := ?_) #[true, true, true, true, true, true, true, false] rfl rfl (by kernel_rfl) (fun _ _ _ h => h) (Or.inl ⟨by rfl, ?_⟩) hHeld ?_ ?_
    rotate_left
    · rintro w' ⟨s0, s1, s2, s3⟩
      go_simp
      with_reducible rfl
    rotate_left
    · simp only [Act.put, List.setIfInBounds_toArray, List.set_cons_zero, List.set_cons_succ, i64_w, i32_w]
      rfl
    refine last_ (i := 7) (N := some 10) #[true, true, true, true, true, true, true, true] rfl rfl (by kernel_rfl) (by decide) (fun K hK => ?_)
    refine goes_ Tryz.func45 (by kernel_rfl) rfl #[.pointer (some ⟨p, 0, none⟩), .int .i64 ((8 * i : Nat) : Int), .slice (some ⟨g, o, none⟩) 8 c] (by rfl) rfl rfl (by simp only [List.map_toArray, List.map_cons, List.map_nil]; rfl) ?_
    with_reducible refine (HW.out).mono ?_
    rintro e w1 ⟨rfl, hd, hf⟩
    refine ⟨_, rfl, ?_⟩
    have HD := Aside0.mk hd
    have HF := Aside0.mk hf
    clear hd hf
    refine hK.out _ _ ?_
    clear hK K
    refine norm_ (a' := ?_) ?_ ?_
    rotate_left
    · show Act.put _ (some 10) _ = _
      simp only [Act.put, List.setIfInBounds_toArray, List.set_cons_zero, List.set_cons_succ, i64_w, i32_w]
      rfl
    refine done_ (by kernel_rfl) ?_
    go_end0
    rw [StepsW, HE.out]
    exact ⟨rfl, HD.out, (Fr.refl _ _).drew.trans' HF.out⟩
  · have HE := Aside0.mk (show d.step (.wr (8 * i) l) = d from if_neg hin)
    have HH := Aside0.mk h
    have HW := Aside0.mk (write_bad w.drew p v s f d ((8 * i : Nat) : Int) (some ⟨g, o, none⟩) 8 c (h.move (Below.refl _ _).drew) (by decide) (by have := insE_nat d.B.length (8 * i) 8; rw [if_neg (by omega)] at this; show insE d.B.length ((8 * i : Nat) : Int) ((8 : Nat) : Int) ≠ 0; rw [this]; decide))
    clear h hok h8
    go_enter Tryz.func71, Tryz.ntmps71
    go_wp2_with fail
    refine start_ (n := 8) (S := fun w' => w'.cell? ⟨bl, 0, none⟩ = some (.pointer (some ⟨q, 0, none⟩)) ∧ w'.cell? ⟨q, 0, none⟩ = some (.pointer (some ⟨p, 0, none⟩)) ∧ w'.cell? ⟨ba, 0, none⟩ = some (.int .i64 i) ∧ w'.cell? ⟨bx, 0, none⟩ = some (.slice (some ⟨g, o, none⟩) 8 c)) (ds := [7]) #[false, false, false, false, false, false, false, false] (by kernel_rfl) rfl rfl ⟨h4, hq, h5, h7⟩ (fun hHeld => ?_)
    refine take_ (i := 0) (N := some 3) (v := ?_) (a' := ?_) #[true, false, false, false, false, false, false, false] rfl rfl (by kernel_rfl) (fun _ _ _ h => h) (Or.inl ⟨by rfl, ?_⟩) hHeld ?_ ?_
    rotate_left
    · rintro w' ⟨s0, s1, s2, s3⟩
      go_simp
      with_reducible rfl
    rotate_left
    · simp only [Act.put, List.setIfInBounds_toArray, List.set_cons_zero, List.set_cons_succ, i64_w, i32_w]
      rfl
    refine pure_ (i := 1) (N := some 4) (v := ?_) (a' := ?_) #[true, true, false, false, false, false, false, false] rfl rfl (by kernel_rfl) (fun _ _ _ h => h) (Or.inl ⟨by rfl, ?_⟩) ?_ ?_
    rotate_left
    · intro w'
      go_simp
      with_reducible rfl
    rotate_left
    · simp only [Act.put, List.setIfInBounds_toArray, List.set_cons_zero, List.set_cons_succ, i64_w, i32_w]
      rfl
    refine pure_ (i := 2) (N := some 5) (v := ?_) (a' := ?_) #[true, true, true, false, false, false, false, false] rfl rfl (by kernel_rfl) (fun _ _ _ h => h) (Or.inl ⟨by rfl, ?_⟩) ?_ ?_
    rotate_left
    · intro w'
      go_simp
      with_reducible rfl
    rotate_left
    · simp only [Act.put, List.setIfInBounds_toArray, List.set_cons_zero, List.set_cons_succ, i64_w, i32_w]
      rfl
    refine take_ (i := 3) (N := some 6) (v := ?_) (a' := ?_) #[true, true, true, true, false, false, false, false] rfl rfl (by kernel_rfl) (fun _ _ _ h => h) (Or.inl ⟨by rfl, ?_⟩) hHeld ?_ ?_
    rotate_left
    · rintro w' ⟨s0, s1, s2, s3⟩
      go_simp
      with_reducible rfl
    rotate_left
    · simp only [Act.put, List.setIfInBounds_toArray, List.set_cons_zero, List.set_cons_succ, i64_w, i32_w]
      rfl
    refine take_ (i := 4) (N := some 7) (v := ?_) (a' := ?_) #[true, true, true, true, true, false, false, false] rfl rfl (by kernel_rfl) (fun _ _ _ h => h) (Or.inl ⟨by rfl, ?_⟩) hHeld ?_ ?_
    rotate_left
    · rintro w' ⟨s0, s1, s2, s3⟩
      go_simp
      with_reducible rfl
    rotate_left
    · simp only [Act.put, List.setIfInBounds_toArray, List.set_cons_zero, List.set_cons_succ, i64_w, i32_w]
      rfl
    refine pure_ (i := 5) (N := some 8) (v := ?_) (a' := ?_) #[true, true, true, true, true, true, false, false] rfl rfl (by kernel_rfl) (fun _ _ _ h => h) (Or.inl ⟨by rfl, ?_⟩) ?_ ?_
    rotate_left
    · intro w'
      go_simp
      with_reducible rfl
    rotate_left
    · simp only [Act.put, List.setIfInBounds_toArray, List.set_cons_zero, List.set_cons_succ, i64_w, i32_w]
      rfl
    refine take_ (i := 6) (N := some 9) (v := ?_) (a' := ?_) #[true, true, true, true, true, true, true, false] rfl rfl (by kernel_rfl) (fun _ _ _ h => h) (Or.inl ⟨by rfl, ?_⟩) hHeld ?_ ?_
    rotate_left
    · rintro w' ⟨s0, s1, s2, s3⟩
      go_simp
      with_reducible rfl
    rotate_left
    · simp only [Act.put, List.setIfInBounds_toArray, List.set_cons_zero, List.set_cons_succ, i64_w, i32_w]
      rfl
    refine last_ (i := 7) (N := some 10) #[true, true, true, true, true, true, true, true] rfl rfl (by kernel_rfl) (by decide) (fun K hK => ?_)
    refine goes_ Tryz.func45 (by kernel_rfl) rfl #[.pointer (some ⟨p, 0, none⟩), .int .i64 ((8 * i : Nat) : Int), .slice (some ⟨g, o, none⟩) 8 c] (by rfl) rfl rfl (by simp only [List.map_toArray, List.map_cons, List.map_nil]; rfl) ?_
    with_reducible refine (HW.out).mono ?_
    rintro e w1 ⟨rfl, hb⟩
    refine ⟨_, rfl, ?_⟩
    have HB := Aside0.mk hb
    clear hb
    refine hK.out _ _ ?_
    clear hK K
    refine norm_ (a' := ?_) ?_ ?_
    rotate_left
    · show Act.put _ (some 10) _ = _
      simp only [Act.put, List.setIfInBounds_toArray, List.set_cons_zero, List.set_cons_succ, i64_w, i32_w]
      rfl
    refine done_ (by kernel_rfl) ?_
    go_end0
    rw [StepsW, HE.out]
    exact ⟨rfl, (HH.out.move (Below.refl _ _).drew).move HB.out, Fr.of_below (bel_step (Below.refl _ _).drew HB.out) _⟩
set_option maxRecDepth 100000 in
theorem stepW_fl (w : World) (q p : Nat) (v : Value) (s f : Nat) (d : Dev) (T : Nat → Prop) (bl ba bn a n : Nat) (h : HasD w p v s f d) (hq : w.cell? ⟨q, 0, none⟩ = some (.pointer (some ⟨p, 0, none⟩))) (hst : IsW w T q p (.fl bl ba bn) (.fl a n)) :
    Calls Tryz.prog 72 #[.pointer (some ⟨bl, 0, none⟩), .pointer (some ⟨ba, 0, none⟩), .pointer (some ⟨bn, 0, none⟩)] w (StepsW w p v s f d (.fl a n)) := by
  obtain ⟨_, _, _, h4, ⟨i, rfl, hi, h5⟩, j, rfl, hj, h6⟩ := hst
  have k1 : IntKind.i64.wrap ((i : Int) * 8) = ((8 * i : Nat) : Int) := by rw [IntWalk.i64_in _ (by omega)]; omega
  have k2 : IntKind.i64.wrap ((j : Int) * 8) = ((8 * j : Nat) : Int) := by rw [IntWalk.i64_in _ (by omega)]; omega
  by_cases hin : 8 * i + 8 * j ≤ d.B.length
  · have HE := Aside0.mk (show d.step (.fl (8 * i) (8 * j)) = d.flush (8 * i) (8 * j) from if_pos hin)
    have HW := Aside0.mk (flush_calls w.drew p v s f d (8 * i) (8 * j) (h.move (Below.refl _ _).drew) (by rw [insE_nat, if_pos hin]))
    clear h
    go_enter Tryz.func72, Tryz.ntmps72
    go_wp2_with fail
    refine start_ (n := 9) (S := fun w' => w'.cell? ⟨bl, 0, none⟩ = some (.pointer (some ⟨q, 0, none⟩)) ∧ w'.cell? ⟨q, 0, none⟩ = some (.pointer (some ⟨p, 0, none⟩)) ∧ w'.cell? ⟨ba, 0, none⟩ = some (.int .i64 i) ∧ w'.cell? ⟨bn, 0, none⟩ = some (.int .i64 j)) (ds := [8]) #[false, false, false, false, false, false, false, false, false] (by kernel_rfl) rfl rfl ⟨h4, hq, h5, h6⟩ (fun hHeld => ?_)
    refine take_ (i := 0) (N := some 3) (v := ?_) (a' := ?_) #[true, false, false, false, false, false, false, false, false] rfl rfl (by kernel_rfl) (fun _ _ _ h => h) (Or.inl ⟨by rfl, ?_⟩) hHeld ?_ ?_
    rotate_left
    · rintro w' ⟨s0, s1, s2, s3⟩
      go_simp
      with_reducible rfl
    rotate_left
    · simp only [Act.put, List.setIfInBounds_toArray, List.set_cons_zero, List.set_cons_succ, i64_w, i32_w]
      rfl
    refine pure_ (i := 1) (N := some 4) (v := ?_) (a' := ?_) #[true, true, false, false, false, false, false, false, false] rfl rfl (by kernel_rfl) (fun _ _ _ h => h) (Or.inl ⟨by rfl, ?_⟩) ?_ ?_
    rotate_left
    · intro w'
      go_simp
      with_reducible rfl
    rotate_left
    · simp only [Act.put, List.setIfInBounds_toArray, List.set_cons_zero, List.set_cons_succ, i64_w, i32_w]
      rfl
    refine pure_ (i := 2) (N := some 5) (v := ?_) (a' := ?_) #[true, true, true, false, false, false, false, false, false] rfl rfl (by kernel_rfl) (fun _ _ _ h => h) (Or.inl ⟨by rfl, ?_⟩) ?_ ?_
    rotate_left
    · intro w'
      go_simp
      with_reducible rfl
    rotate_left
    · simp only [Act.put, List.setIfInBounds_toArray, List.set_cons_zero, List.set_cons_succ, i64_w, i32_w]
      rfl
    refine take_ (i := 3) (N := some 6) (v := ?_) (a' := ?_) #[true, true, true, true, false, false, false, false, false] rfl rfl (by kernel_rfl) (fun _ _ _ h => h) (Or.inl ⟨by rfl, ?_⟩) hHeld ?_ ?_
    rotate_left
    · rintro w' ⟨s0, s1, s2, s3⟩
      go_simp
      with_reducible rfl
    rotate_left
    · simp only [Act.put, List.setIfInBounds_toArray, List.set_cons_zero, List.set_cons_succ, i64_w, i32_w]
      rfl
    refine take_ (i := 4) (N := some 7) (v := ?_) (a' := ?_) #[true, true, true, true, true, false, false, false, false] rfl rfl (by kernel_rfl) (fun _ _ _ h => h) (Or.inl ⟨by rfl, ?_⟩) hHeld ?_ ?_
    rotate_left
    · rintro w' ⟨s0, s1, s2, s3⟩
      go_simp
      with_reducible rfl
    rotate_left
    · simp only [Act.put, List.setIfInBounds_toArray, List.set_cons_zero, List.set_cons_succ, i64_w, i32_w]
      rfl
    refine pure_ (i := 5) (N := some 8) (v := ?_) (a' := ?_) #[true, true, true, true, true, true, false, false, false] rfl rfl (by kernel_rfl) (fun _ _ _ h => h) (Or.inl ⟨by rfl, ?_⟩) ?_ ?_
    rotate_left
    · intro w'
      go_simp
      with_reducible rfl
    rotate_left
    · simp only [Act.put, List.setIfInBounds_toArray, List.set_cons_zero, List.set_cons_succ, i64_w, i32_w]
      rfl
    refine take_ (i := 6) (N := some 9) (v := ?_) (a' := ?_) #[true, true, true, true, true, true, true, false, false] rfl rfl (by kernel_rfl) (fun _ _ _ h => h) (Or.inl ⟨by rfl, ?_⟩) hHeld ?_ ?_
    rotate_left
    · rintro w' ⟨s0, s1, s2, s3⟩
      go_simp
      with_reducible rfl
    rotate_left
    · simp only [Act.put, List.setIfInBounds_toArray, List.set_cons_zero, List.set_cons_succ, i64_w, i32_w]
      rfl
    refine pure_ (i := 7) (N := some 10) (v := ?_) (a' := ?_) #[true, true, true, true, true, true, true, true, false] rfl rfl (by kernel_rfl) (fun _ _ _ h => h) (Or.inl ⟨by rfl, ?_⟩) ?_ ?_
    rotate_left
    · intro w'
      go_simp
      with_reducible rfl
    rotate_left
    · simp only [Act.put, List.setIfInBounds_toArray, List.set_cons_zero, List.set_cons_succ, i64_w, i32_w]
      rfl
    refine last_ (i := 8) (N := some 11) #[true, true, true, true, true, true, true, true, true] rfl rfl (by kernel_rfl) (by decide) (fun K hK => ?_)
    refine goes_ Tryz.func46 (by kernel_rfl) rfl #[.pointer (some ⟨p, 0, none⟩), .int .i64 ((8 * i : Nat) : Int), .int .i64 ((8 * j : Nat) : Int)] (by rfl) rfl rfl (by simp only [List.map_toArray, List.map_cons, List.map_nil]; rfl) ?_
    with_reducible refine (HW.out).mono ?_
    rintro e w1 ⟨rfl, hd, hf⟩
    refine ⟨_, rfl, ?_⟩
    have HD := Aside0.mk hd
    have HF := Aside0.mk hf
    clear hd hf
    refine hK.out _ _ ?_
    clear hK K
    refine norm_ (a' := ?_) ?_ ?_
    rotate_left
    · show Act.put _ (some 11) _ = _
      simp only [Act.put, List.setIfInBounds_toArray, List.set_cons_zero, List.set_cons_succ, i64_w, i32_w]
      rfl
    refine done_ (by kernel_rfl) ?_
    go_end0
    rw [StepsW, HE.out]
    exact ⟨rfl, HD.out, (Fr.refl _ _).drew.trans' HF.out⟩
  · have HE := Aside0.mk (show d.step (.fl (8 * i) (8 * j)) = d from if_neg hin)
    have HH := Aside0.mk h
    have HW := Aside0.mk (flush_bad w.drew p v s f d ((8 * i : Nat) : Int) ((8 * j : Nat) : Int) (h.move (Below.refl _ _).drew) (by rw [insE_nat, if_neg hin]; decide))
    clear h
    go_enter Tryz.func72, Tryz.ntmps72
    go_wp2_with fail
    refine start_ (n := 9) (S := fun w' => w'.cell? ⟨bl, 0, none⟩ = some (.pointer (some ⟨q, 0, none⟩)) ∧ w'.cell? ⟨q, 0, none⟩ = some (.pointer (some ⟨p, 0, none⟩)) ∧ w'.cell? ⟨ba, 0, none⟩ = some (.int .i64 i) ∧ w'.cell? ⟨bn, 0, none⟩ = some (.int .i64 j)) (ds := [8]) #[false, false, false, false, false, false, false, false, false] (by kernel_rfl) rfl rfl ⟨h4, hq, h5, h6⟩ (fun hHeld => ?_)
    refine take_ (i := 0) (N := some 3) (v := ?_) (a' := ?_) #[true, false, false, false, false, false, false, false, false] rfl rfl (by kernel_rfl) (fun _ _ _ h => h) (Or.inl ⟨by rfl, ?_⟩) hHeld ?_ ?_
    rotate_left
    · rintro w' ⟨s0, s1, s2, s3⟩
      go_simp
      with_reducible rfl
    rotate_left
    · simp only [Act.put, List.setIfInBounds_toArray, List.set_cons_zero, List.set_cons_succ, i64_w, i32_w]
      rfl
    refine pure_ (i := 1) (N := some 4) (v := ?_) (a' := ?_) #[true, true, false, false, false, false, false, false, false] rfl rfl (by kernel_rfl) (fun _ _ _ h => h) (Or.inl ⟨by rfl, ?_⟩) ?_ ?_
    rotate_left
    · intro w'
      go_simp
      with_reducible rfl
    rotate_left
    · simp only [Act.put, List.setIfInBounds_toArray, List.set_cons_zero, List.set_cons_succ, i64_w, i32_w]
      rfl
    refine pure_ (i := 2) (N := some 5) (v := ?_) (a' := ?_) #[true, true, true, false, false, false, false, false, false] rfl rfl (by kernel_rfl) (fun _ _ _ h => h) (Or.inl ⟨by rfl, ?_⟩) ?_ ?_
    rotate_left
    · intro w'
      go_simp
      with_reducible rfl
    rotate_left
    · simp only [Act.put, List.setIfInBounds_toArray, List.set_cons_zero, List.set_cons_succ, i64_w, i32_w]
      rfl
    refine take_ (i := 3) (N := some 6) (v := ?_) (a' := ?_) #[true, true, true, true, false, false, false, false, false] rfl rfl (by kernel_rfl) (fun _ _ _ h => h) (Or.inl ⟨by rfl, ?_⟩) hHeld ?_ ?_
    rotate_left
    · rintro w' ⟨s0, s1, s2, s3⟩
      go_simp
      with_reducible rfl
    rotate_left
    · simp only [Act.put, List.setIfInBounds_toArray, List.set_cons_zero, List.set_cons_succ, i64_w, i32_w]
      rfl
    refine take_ (i := 4) (N := some 7) (v := ?_) (a' := ?_) #[true, true, true, true, true, false, false, false, false] rfl rfl (by kernel_rfl) (fun _ _ _ h => h) (Or.inl ⟨by rfl, ?_⟩) hHeld ?_ ?_
    rotate_left
    · rintro w' ⟨s0, s1, s2, s3⟩
      go_simp
      with_reducible rfl
    rotate_left
    · simp only [Act.put, List.setIfInBounds_toArray, List.set_cons_zero, List.set_cons_succ, i64_w, i32_w]
      rfl
    refine pure_ (i := 5) (N := some 8) (v := ?_) (a' := ?_) #[true, true, true, true, true, true, false, false, false] rfl rfl (by kernel_rfl) (fun _ _ _ h => h) (Or.inl ⟨by rfl, ?_⟩) ?_ ?_
    rotate_left
    · intro w'
      go_simp
      with_reducible rfl
    rotate_left
    · simp only [Act.put, List.setIfInBounds_toArray, List.set_cons_zero, List.set_cons_succ, i64_w, i32_w]
      rfl
    refine take_ (i := 6) (N := some 9) (v := ?_) (a' := ?_) #[true, true, true, true, true, true, true, false, false] rfl rfl (by kernel_rfl) (fun _ _ _ h => h) (Or.inl ⟨by rfl, ?_⟩) hHeld ?_ ?_
    rotate_left
    · rintro w' ⟨s0, s1, s2, s3⟩
      go_simp
      with_reducible rfl
    rotate_left
    · simp only [Act.put, List.setIfInBounds_toArray, List.set_cons_zero, List.set_cons_succ, i64_w, i32_w]
      rfl
    refine pure_ (i := 7) (N := some 10) (v := ?_) (a' := ?_) #[true, true, true, true, true, true, true, true, false] rfl rfl (by kernel_rfl) (fun _ _ _ h => h) (Or.inl ⟨by rfl, ?_⟩) ?_ ?_
    rotate_left
    · intro w'
      go_simp
      with_reducible rfl
    rotate_left
    · simp only [Act.put, List.setIfInBounds_toArray, List.set_cons_zero, List.set_cons_succ, i64_w, i32_w]
      rfl
    refine last_ (i := 8) (N := some 11) #[true, true, true, true, true, true, true, true, true] rfl rfl (by kernel_rfl) (by decide) (fun K hK => ?_)
    refine goes_ Tryz.func46 (by kernel_rfl) rfl #[.pointer (some ⟨p, 0, none⟩), .int .i64 ((8 * i : Nat) : Int), .int .i64 ((8 * j : Nat) : Int)] (by rfl) rfl rfl (by simp only [List.map_toArray, List.map_cons, List.map_nil]; rfl) ?_
    with_reducible refine (HW.out).mono ?_
    rintro e w1 ⟨rfl, hb⟩
    refine ⟨_, rfl, ?_⟩
    have HB := Aside0.mk hb
    clear hb
    refine hK.out _ _ ?_
    clear hK K
    refine norm_ (a' := ?_) ?_ ?_
    rotate_left
    · show Act.put _ (some 11) _ = _
      simp only [Act.put, List.setIfInBounds_toArray, List.set_cons_zero, List.set_cons_succ, i64_w, i32_w]
      rfl
    refine done_ (by kernel_rfl) ?_
    go_end0
    rw [StepsW, HE.out]
    exact ⟨rfl, (HH.out.move (Below.refl _ _).drew).move HB.out, Fr.of_below (bel_step (Below.refl _ _).drew HB.out) _⟩
theorem stepW_fe (w : World) (p : Nat) (v : Value) (s f : Nat) (d : Dev) (h : HasD w p v s f d) :
    Calls Tryz.prog 47 #[.pointer (some ⟨p, 0, none⟩)] w (StepsW w p v s f d .fe) :=
  (fence_calls w p v s f d h).mono fun e w' he => he
def MkWr (w : World) (q : Nat) (i : Int) (A : Option Addr) (n c : Nat) (e : Ending) (w' : World) : Prop :=
  ∃ bl ba bx, e = .returned (.func (.func 71) #[] #[.pointer (some ⟨bl, 0, none⟩), .pointer (some ⟨ba, 0, none⟩), .pointer (some ⟨bx, 0, none⟩)]) ∧
    (w.heap.size ≤ bl ∧ w.heap.size ≤ ba ∧ w.heap.size ≤ bx ∧ w'.cell? ⟨bl, 0, none⟩ = some (.pointer (some ⟨q, 0, none⟩)) ∧ w'.cell? ⟨ba, 0, none⟩ = some (.int .i64 i) ∧ w'.cell? ⟨bx, 0, none⟩ = some (.slice A n c)) ∧ Below w.heap.size w w'
theorem mkwrW_calls (w : World) (q : Nat) (i : Int) (A : Option Addr) (n c : Nat) :
    Calls Tryz.prog 50 #[.pointer (some ⟨q, 0, none⟩), .int .i64 i, .slice A n c] w (MkWr w q i A n c) := by
  go_enter Tryz.func50, Tryz.ntmps50
  go_wp2
  go_ret
  exact ⟨_, _, _, rfl, ⟨Nat.le_refl _, Nat.le_succ _, Nat.le_succ_of_le (Nat.le_succ _), cell_alloc (cell_alloc (blk_cell (heap_alloc_new w _) rfl) _) _, cell_alloc (blk_cell (alloc_two _ _ _) rfl) _, blk_cell (alloc_three _ _ _ _) rfl⟩, (((Below.refl _ w).alloc (Nat.le_refl _) _).alloc (by simp) _).alloc (by simp; omega) _⟩
def MkFl (w : World) (q : Nat) (i j : Int) (e : Ending) (w' : World) : Prop :=
  ∃ bl ba bn, e = .returned (.func (.func 72) #[] #[.pointer (some ⟨bl, 0, none⟩), .pointer (some ⟨ba, 0, none⟩), .pointer (some ⟨bn, 0, none⟩)]) ∧
    (w.heap.size ≤ bl ∧ w.heap.size ≤ ba ∧ w.heap.size ≤ bn ∧ w'.cell? ⟨bl, 0, none⟩ = some (.pointer (some ⟨q, 0, none⟩)) ∧ w'.cell? ⟨ba, 0, none⟩ = some (.int .i64 i) ∧ w'.cell? ⟨bn, 0, none⟩ = some (.int .i64 j)) ∧ Below w.heap.size w w'
theorem mkflW_calls (w : World) (q : Nat) (i j : Int) :
    Calls Tryz.prog 52 #[.pointer (some ⟨q, 0, none⟩), .int .i64 i, .int .i64 j] w (MkFl w q i j) := by
  go_enter Tryz.func52, Tryz.ntmps52
  go_wp2
  go_ret
  exact ⟨_, _, _, rfl, ⟨Nat.le_refl _, Nat.le_succ _, Nat.le_succ_of_le (Nat.le_succ _), cell_alloc (cell_alloc (blk_cell (heap_alloc_new w _) rfl) _) _, cell_alloc (blk_cell (alloc_two _ _ _) rfl) _, blk_cell (alloc_three _ _ _ _) rfl⟩, (((Below.refl _ w).alloc (Nat.le_refl _) _).alloc (by simp) _).alloc (by simp; omega) _⟩
theorem info_fnW : (Tryz.prog.info? 1).map (fun i => (i.zero, i.size, i.bytes)) = some (some .nilFunc, 1, 8) := by kernel_rfl
abbrev RowW (w : World) (base : Nat) (v : Value) (xs : List StepW) : Prop := SwK.R 1 w base (fun _ => True) v xs
theorem rowW_base {w : World} {base : Nat} {v : Value} {xs : List StepW} (h : RowW w base v xs) {b : Nat} (hb : v.ownBlock = some b) : base ≤ b ∧ b < w.heap.size := by
  obtain ⟨cs, t, fr, hc⟩ := own_blk h hb.symm
  refine ⟨?_, blk_lt hc⟩
  rcases (Kd.own_of_R h).2 with ⟨e, _⟩ | ⟨g, cap, cur, e, hg, _⟩
  · rw [e] at hb
    simp [Value.ownBlock] at hb
  · rw [e] at hb
    simp only [Value.ownBlock, Option.some.injEq] at hb
    rw [← hb]
    exact hg
theorem litW_steps {w : World} {xs : List StepW} {t : TypeId} (h : xs.length ≤ 9223372036854775807) : SwK.C (w.alloc (.cells (xs.map encW).toArray t)) (some ⟨w.heap.size, 0, none⟩) xs.length xs := by
  refine Kd.C_of_reads (d := .fe 0) (h1 := encW_one) ⟨rfl, h, fun _ => ⟨_, rfl, fun j hj => ?_⟩⟩
  rw [add_plain]
  refine blk_cell (heap_alloc_new w _) ?_
  simp [hj]
def TW (base : Nat) (sv : Value) (b : Nat) : Prop := base ≤ b ∧ some b ≠ sv.ownBlock
structure HasW (w0 w : World) (n0 base : Nat) (q p : Nat) (v : Value) (xs : List StepW) (ms : List StepM) : Prop where
  row : RowW w base v xs
  all : AllW w (TW n0 v) q p xs ms
  bel : Below base w0 w
theorem HasW.move {w0 w w1 : World} {n0 base q p : Nat} {v : Value} {xs : List StepW} {ms : List StepM} (h : HasW w0 w n0 base q p v xs ms) (hb : Below w.heap.size w w1) (hs : base ≤ w.heap.size) : HasW w0 w1 n0 base q p v xs ms :=
  ⟨Kd.R_below h.row hb, h.all.move (S := fun _ => False) (Fr.of_below hb _) (fun _ _ h => h), h.bel.trans (hb.mono hs)⟩
theorem HasW.add {w0 w w6 : World} {n0 base q p : Nat} {v v' : Value} {xs ys : List StepW} {ms ns : List StepM} (h : HasW w0 w n0 base q p v xs ms) (hs : base ≤ w.heap.size) (hx : AllW w (TW n0 v) q p ys ns)
    (hr : RowW w6 base v' (xs ++ ys)) (hg : w.grownBy w6 v.ownBlock) (hat : v'.ownBlock = v.ownBlock ∨ ∃ b, v'.ownBlock = some b ∧ w.heap.size ≤ b) : HasW w0 w6 n0 base q p v' (xs ++ ys) (ms ++ ns) := by
  have hT : ∀ b, b < w.heap.size → TW n0 v b → TW n0 v' b := by
    rintro b hb3 ⟨h1, h2⟩
    refine ⟨h1, ?_⟩
    rcases hat with e | ⟨c, e, hc⟩
    · rw [e]; exact h2
    · rw [e]
      intro e2
      have := Option.some.inj e2
      omega
  have hF : Fr (fun b => some b = v.ownBlock) w w6 := (Fr.refl _ _).grown hg (fun k hk => .inl hk.symm)
  refine ⟨hr, ?_, h.bel.trans (hF.below base hs (fun b hb => (rowW_base h.row hb.symm).1))⟩
  have h2 : AllW w (fun b => TW n0 v b ∧ TW n0 v' b) q p (xs ++ ys) (ms ++ ns) := (AllW.app hx h.all).mono (fun b hb3 ht => ⟨ht, hT b hb3 ht⟩)
  exact (h2.move hF (fun b ht hh => ht.1.2 hh)).mono (fun b _ ht => ht.2)
theorem TW.new {w0 w : World} {n0 base q p : Nat} {v : Value} {xs : List StepW} {ms : List StepM} (h : HasW w0 w n0 base q p v xs ms) (hs : n0 ≤ w.heap.size) {b : Nat} (hb : w.heap.size ≤ b) : TW n0 v b := ⟨Nat.le_trans hs hb, fun e => absurd (rowW_base h.row e.symm).2 (by omega)⟩
theorem TW.old {w0 w : World} {n0 base q p : Nat} {v : Value} {xs : List StepW} {ms : List StepM} (h : HasW w0 w n0 base q p v xs ms) {b : Nat} (h0 : n0 ≤ b) (hb : b < base) : TW n0 v b := ⟨h0, fun e => absurd (rowW_base h.row e.symm).1 (by omega)⟩
theorem isW_wr {w6 W' : World} {T : Nat → Prop} {q p bl ba bx i g o c s : Nat} {l : List Int} (hm : s ≤ bl ∧ s ≤ ba ∧ s ≤ bx ∧ w6.cell? ⟨bl, 0, none⟩ = some (.pointer (some ⟨q, 0, none⟩)) ∧ w6.cell? ⟨ba, 0, none⟩ = some (.int .i64 (i : Int)) ∧ w6.cell? ⟨bx, 0, none⟩ = some (.slice (some ⟨g, o, none⟩) 8 c))
    (hb : Below w6.heap.size w6 W') (hT : ∀ b, s ≤ b → T b) (hg : T g) (hi : i ≤ 8192) (hl : l.length = 8) (hr : ReadsInt W' .u8 (some ⟨g, o, none⟩) 8 l) : IsW W' T q p (.wr bl ba bx) (.wr (8 * i) l) :=
  ⟨hT _ hm.1, hT _ hm.2.1, hT _ hm.2.2.1, bel_cell hb hm.2.2.2.1, ⟨i, rfl, hi, bel_cell hb hm.2.2.2.2.1⟩, hl, g, o, c, hg, bel_cell hb hm.2.2.2.2.2, hr⟩
theorem isW_fl {w6 W' : World} {T : Nat → Prop} {q p bl ba bn i j s : Nat} (hm : s ≤ bl ∧ s ≤ ba ∧ s ≤ bn ∧ w6.cell? ⟨bl, 0, none⟩ = some (.pointer (some ⟨q, 0, none⟩)) ∧ w6.cell? ⟨ba, 0, none⟩ = some (.int .i64 (i : Int)) ∧ w6.cell? ⟨bn, 0, none⟩ = some (.int .i64 (j : Int)))
    (hb : Below w6.heap.size w6 W') (hT : ∀ b, s ≤ b → T b) (hi : i ≤ 8192) (hj : j ≤ 8192) : IsW W' T q p (.fl bl ba bn) (.fl (8 * i) (8 * j)) :=
  ⟨hT _ hm.1, hT _ hm.2.1, hT _ hm.2.2.1, bel_cell hb hm.2.2.2.1, ⟨i, rfl, hi, bel_cell hb hm.2.2.2.2.1⟩, j, rfl, hj, bel_cell hb hm.2.2.2.2.2⟩
theorem litW_row {w : World} {base : Nat} {xs : List StepW} (hb : base ≤ w.heap.size) (hl : xs.length ≤ 100000) : RowW (w.alloc (.cells (xs.map encW).toArray 1)) base (.slice (some ⟨w.heap.size, 0, none⟩) xs.length xs.length) xs := by
  refine Kd.R_of_own ?_ (fun _ _ => trivial)
  have h := World.ownsRow_lit (base := base) (e := 1) (size := 1) w (xs.map encW).toArray xs.length hb (by simp only [maxLen]; omega) (by simp)
  simpa [encs] using h
end Go.Proofs.YtbfogcckbhkciaaGreat.Hand
namespace Go.Proofs.YtbfogcckbhkciaaGreat.Hand
set_option linter.unusedVariables false
set_option linter.unusedSimpArgs false
open Go.RowKit Go.Maps Go.Proofs.YtbfogcckbhkciaaGreatW.PrintWords Go.Proofs.YtbfogcckbhkciaaGreatW.PrintLast
set_option linter.unusedVariables false
set_option linter.unusedSimpArgs false
theorem str_eqW {a b : List Int} (h : (strOfNums a).toList = (strOfNums b).toList) : strOfNums a = strOfNums b := by
  rw [Lib.strOfNums_toList, Lib.strOfNums_toList] at h
  show ByteArray.mk (Lib.bytesOf a).toArray = ByteArray.mk (Lib.bytesOf b).toArray
  rw [h]
def manyB (b : List Int) : Int := numL (cut b 0 2)
def seqB (b : List Int) : Int := numL (cut b 2 4)
def atB (b : List Int) (j : Nat) : Int := numL (cut b (8 + 16 * j) 8)
def nB (b : List Int) (j : Nat) : Int := numL (cut b (16 + 16 * j) 8)
def setsB (b : List Int) (m : Nat) : List SetT := (List.range m).map fun j => (atB b j, nB b j)
theorem setsB_length (b : List Int) (m : Nat) : (setsB b m).length = m := by simp [setsB]
theorem setsB_succ (b : List Int) (m : Nat) : setsB b (m + 1) = setsB b m ++ [(atB b m, nB b m)] := by simp [setsB, List.range_succ]
def okB (n a k : Nat) (x : Int) : Bool := decide (x ≤ 8192) && mayB n a k x
def BadH (k : Nat) (b : List Int) : Prop := manyB b < 1 ∨ (((k - 1) / 2 : Nat) : Int) < manyB b ∨ seqB b < 1
instance (k : Nat) (b : List Int) : Decidable (BadH k b) := by unfold BadH; infer_instance
def recB (n a k : Nat) (b : List Int) : Int × List SetT :=
  if BadH k b then (0, []) else if (setsB b (manyB b).toNat).all (fun s => okB n a k s.1) = false then (0, []) else
    if headL (manyB b) (seqB b) (bodyL (setsB b (manyB b).toNat)) = b.take 8 then (seqB b, setsB b (manyB b).toNat) else (0, [])
theorem get_in (A : Option Addr) (c : Nat) (l : List Int) (a k : Nat) (w : World) (hr : ReadsInt w .u8 A l.length l) (hb : Bys l) (hk : k = 2 ∨ k = 4 ∨ k = 8) (h : a + k ≤ l.length) :
    Calls Tryz.prog 56 #[.slice A l.length c, .int .i64 (a : Int), .int .i64 (k : Int)] w fun e w' => e = .returned (.tuple #[.int .u64 (numL (cut l a k)), .bool true]) ∧ Below w.heap.size w w' := by
  have h1 : (rightB (k : Int) && insideB (a : Int) (k : Int) l.length) = true := by
    rcases hk with rfl | rfl | rfl <;> (simp [rightB, insideB]; omega)
  refine (get_any A c l a k w hr hb).mono fun e w' he => ⟨?_, he.2⟩
  rw [he.1, h1, gNum, if_pos h1]
  rfl
theorem num_lt {b : List Int} (hb : Bys b) {a m : Nat} (h : a + m ≤ b.length) : 0 ≤ numL (cut b a m) ∧ numL (cut b a m) < 256 ^ m := by
  refine ⟨numL_nonneg (cut_bys hb _ _), ?_⟩
  have := numL_lt (cut_bys hb a m)
  rw [cut_length h] at this
  exact this
theorem info_set : (Tryz.prog.info? 66).map (fun i => (i.zero, i.size, i.bytes)) = some (some (.agg #[.int .i64 0, .int .u64 0]), 2, 16) := by kernel_rfl
abbrev RowSt (W : World) (base : Nat) (v : Value) (l : List SetT) : Prop := SetK.R 66 W base (fun _ => True) v l
def RecE (w : World) (r : Int × List SetT) (e : Ending) (w' : World) : Prop := ∃ v : Value, e = .returned (.tuple #[.int .i64 r.1, v]) ∧ RowSt w' w.heap.size v r.2 ∧ Below w.heap.size w w'
theorem inR_ins {d : Dev} {a k : Nat} (h : a + k ≤ d.B.length / 8) : insE d.B.length ((8 * a : Nat) : Int) ((8 * k : Nat) : Int) = 0 := by rw [insE_nat, if_pos (by omega)]
theorem read_reg (w : World) (p : Nat) (v : Value) (s f : Nat) (d : Dev) (a k : Nat) (h : HasD w p v s f d) (hak : a + k ≤ d.B.length / 8) :
    Calls Tryz.prog 24 #[.pointer (some ⟨p, 0, none⟩), .int .i64 ((8 * a : Nat) : Int), .int .i64 ((8 * k : Nat) : Int)] w fun e w' => ∃ A c, e = .returned (.tuple #[.slice A (cut d.B (8 * a) (8 * k)).length c, .int .i64 0]) ∧ (cut d.B (8 * a) (8 * k)).length ≤ c ∧ ReadsInt w' .u8 A (cut d.B (8 * a) (8 * k)).length (cut d.B (8 * a) (8 * k)) ∧ Below w.heap.size w w' := by
  refine (read_good w p v s f d (8 * a) (8 * k) h (inR_ins hak)).mono ?_
  rintro e w' ⟨u, rfl, hu, hb⟩
  obtain ⟨A, c, rfl, hc, hr⟩ := reads_own2 hu
  exact ⟨A, c, rfl, hc, hr, hb⟩
set_option maxRecDepth 100000 in
set_option maxHeartbeats 4000000 in
theorem record_bad (w : World) (q p : Nat) (v : Value) (s f : Nat) (d : Dev) (a k nx : Nat) (hd : HasD w p v s f d) (h : HasL w q p a k nx) (h1 : 1 ≤ k) (hak : a + k ≤ d.B.length / 8) (hbad : BadH k (cut d.B (8 * a) (8 * k))) : Calls Tryz.prog 26 #[.pointer (some ⟨q, 0, none⟩)] w (RecE w (0, [])) := by
  have HD := Aside0.mk hd
  have HL := Aside0.mk h
  have hm := hd.ok.max
  obtain ⟨c0, c1, c2, c3⟩ := h.cells
  have HK := Aside0.mk (read_reg w.drew p v s f d a k (hd.move (Below.refl _ _).drew) hak)
  have hbl : (cut d.B (8 * a) (8 * k)).length = 8 * k := cut_length (by omega)
  have HBY := Aside0.mk (show Bys (cut d.B (8 * a) (8 * k)) from cut_bys hd.ok.bys _ _)
  obtain ⟨b, hb⟩ : ∃ b, b = cut d.B (8 * a) (8 * k) := ⟨_, rfl⟩
  rw [← hb] at hbad HK HBY hbl
  have m0 := num_lt HBY.out (a := 0) (m := 2) (by omega)
  have s0 := num_lt HBY.out (a := 2) (m := 4) (by omega)
  obtain ⟨M, hM⟩ : ∃ M, M = numL (cut b 0 2) := ⟨_, rfl⟩
  obtain ⟨Q, hQ⟩ : ∃ Q, Q = numL (cut b 2 4) := ⟨_, rfl⟩
  rw [← hM] at m0
  rw [← hQ] at s0
  have e1 : IntKind.i64.wrap ((a : Int) * 8) = ((8 * a : Nat) : Int) := by rw [IntWalk.i64_in _ (by omega)]; omega
  have e2 : IntKind.i64.wrap ((k : Int) * 8) = ((8 * k : Nat) : Int) := by rw [IntWalk.i64_in _ (by omega)]; omega
  have e3 : IntKind.i64.wrap M = M := IntWalk.i64_in _ (by omega)
  have HGM := Aside0.mk (fun (A : Option Addr) (c : Nat) (W : World) (hr : ReadsInt W .u8 A b.length b) => show Calls Tryz.prog 56 #[.slice A b.length c, .int .i64 0, .int .i64 2] W (fun e w' => e = .returned (.tuple #[.int .u64 M, .bool true]) ∧ Below W.heap.size W w') from by rw [hM]; exact get_in A c b 0 2 W hr HBY.out (.inl rfl) (by omega))
  have HGQ := Aside0.mk (fun (A : Option Addr) (c : Nat) (W : World) (hr : ReadsInt W .u8 A b.length b) => show Calls Tryz.prog 56 #[.slice A b.length c, .int .i64 2, .int .i64 4] W (fun e w' => e = .returned (.tuple #[.int .u64 Q, .bool true]) ∧ Below W.heap.size W w') from by rw [hQ]; exact get_in A c b 2 4 W hr HBY.out (.inr (.inl rfl)) (by omega))
  have hb3 : M < 1 ∨ (1 ≤ M ∧ (((k - 1) / 2 : Nat) : Int) < M) ∨ (1 ≤ M ∧ M ≤ (((k - 1) / 2 : Nat) : Int) ∧ Q < 1) := by
    simp only [BadH, manyB, seqB, ← hM, ← hQ] at hbad
    omega
  obtain ⟨r, hr⟩ : ∃ r : Nat, r = (k - 1) / 2 := ⟨_, rfl⟩
  have HRM := Aside0.mk (fun (W : World) (hl : HasL W q p a k nx) => room4_calls W q p a k nx hl h1 (by omega))
  rw [← hr] at hb3 HRM
  have HBL := Aside0.mk hbl
  clear hd h hbad hM hQ hb hr hbl
  rcases hb3 with z1 | ⟨z1, z2⟩ | ⟨z1, z2, z3⟩
  all_goals
    go_enter Tryz.func26, Tryz.ntmps26
    go_wp2_with fail
    refine start_ (n := 20) (S := fun w' => w'.cell? ⟨q, 0, none⟩ = some (.pointer (some ⟨p, 0, none⟩)) ∧ w'.cell? ⟨q, 1, none⟩ = some (.int .i64 a) ∧ w'.cell? ⟨q, 2, none⟩ = some (.int .i64 k)) (ds := [14]) #[false, false, false, false, false, false, false, false, false, false, false, false, false, false, false, false, false, false, false, false] (by kernel_rfl) rfl rfl ⟨c0, c1, c2⟩ (fun hHeld => ?_)
    refine pure_ (i := 0) (N := some 17) (v := ?_) (a' := ?_) #[true, false, false, false, false, false, false, false, false, false, false, false, false, false, false, false, false, false, false, false] rfl rfl (by kernel_rfl) (fun _ _ _ h => h) (Or.inl ⟨by rfl, ?_⟩) ?_ ?_
    rotate_left
    · intro w'
      go_simp
      with_reducible rfl
    rotate_left
    · simp only [Act.put, List.setIfInBounds_toArray, List.set_cons_zero, List.set_cons_succ, i64_w, i32_w]
      rfl
    refine pure_ (i := 1) (N := some 18) (v := ?_) (a' := ?_) #[true, true, false, false, false, false, false, false, false, false, false, false, false, false, false, false, false, false, false, false] rfl rfl (by kernel_rfl) (fun _ _ _ h => h) (Or.inl ⟨by rfl, ?_⟩) ?_ ?_
    rotate_left
    · intro w'
      go_simp
      with_reducible rfl
    rotate_left
    · simp only [Act.put, List.setIfInBounds_toArray, List.set_cons_zero, List.set_cons_succ, i64_w, i32_w]
      rfl
    refine pure_ (i := 2) (N := some 19) (v := ?_) (a' := ?_) #[true, true, true, false, false, false, false, false, false, false, false, false, false, false, false, false, false, false, false, false] rfl rfl (by kernel_rfl) (fun _ _ _ h => h) (Or.inl ⟨by rfl, ?_⟩) ?_ ?_
    rotate_left
    · intro w'
      go_simp
      with_reducible rfl
    rotate_left
    · simp only [Act.put, List.setIfInBounds_toArray, List.set_cons_zero, List.set_cons_succ, i64_w, i32_w]
      rfl
    refine pure_ (i := 4) (N := some 21) (v := ?_) (a' := ?_) #[true, true, true, false, true, false, false, false, false, false, false, false, false, false, false, false, false, false, false, false] rfl rfl (by kernel_rfl) (fun _ _ _ h => h) (Or.inl ⟨by rfl, ?_⟩) ?_ ?_
    rotate_left
    · intro w'
      go_simp
      with_reducible rfl
    rotate_left
    · simp only [Act.put, List.setIfInBounds_toArray, List.set_cons_zero, List.set_cons_succ, i64_w, i32_w]
      rfl
    refine pure_ (i := 5) (N := some 22) (v := ?_) (a' := ?_) #[true, true, true, false, true, true, false, false, false, false, false, false, false, false, false, false, false, false, false, false] rfl rfl (by kernel_rfl) (fun _ _ _ h => h) (Or.inl ⟨by rfl, ?_⟩) ?_ ?_
    rotate_left
    · intro w'
      go_simp
      with_reducible rfl
    rotate_left
    · simp only [Act.put, List.setIfInBounds_toArray, List.set_cons_zero, List.set_cons_succ, i64_w, i32_w]
      rfl
    refine pure_ (i := 6) (N := some 23) (v := ?_) (a' := ?_) #[true, true, true, false, true, true, true, false, false, false, false, false, false, false, false, false, false, false, false, false] rfl rfl (by kernel_rfl) (fun _ _ _ h => h) (Or.inl ⟨by rfl, ?_⟩) ?_ ?_
    rotate_left
    · intro w'
      go_simp
      with_reducible rfl
    rotate_left
    · simp only [Act.put, List.setIfInBounds_toArray, List.set_cons_zero, List.set_cons_succ, i64_w, i32_w]
      rfl
    refine pure_ (i := 9) (N := some 26) (v := ?_) (a' := ?_) #[true, true, true, false, true, true, true, false, false, true, false, false, false, false, false, false, false, false, false, false] rfl rfl (by kernel_rfl) (fun _ _ _ h => h) (Or.inl ⟨by rfl, ?_⟩) ?_ ?_
    rotate_left
    · intro w'
      go_simp
      with_reducible rfl
    rotate_left
    · simp only [Act.put, List.setIfInBounds_toArray, List.set_cons_zero, List.set_cons_succ, i64_w, i32_w]
      rfl
    refine pure_ (i := 10) (N := some 27) (v := ?_) (a' := ?_) #[true, true, true, false, true, true, true, false, false, true, true, false, false, false, false, false, false, false, false, false] rfl rfl (by kernel_rfl) (fun _ _ _ h => h) (Or.inl ⟨by rfl, ?_⟩) ?_ ?_
    rotate_left
    · intro w'
      go_simp
      with_reducible rfl
    rotate_left
    · simp only [Act.put, List.setIfInBounds_toArray, List.set_cons_zero, List.set_cons_succ, i64_w, i32_w]
      rfl
    refine pure_ (i := 11) (N := some 28) (v := ?_) (a' := ?_) #[true, true, true, false, true, true, true, false, false, true, true, true, false, false, false, false, false, false, false, false] rfl rfl (by kernel_rfl) (fun _ _ _ h => h) (Or.inl ⟨by rfl, ?_⟩) ?_ ?_
    rotate_left
    · intro w'
      go_simp
      with_reducible rfl
    rotate_left
    · simp only [Act.put, List.setIfInBounds_toArray, List.set_cons_zero, List.set_cons_succ, i64_w, i32_w]
      rfl
    refine take_ (i := 3) (N := some 20) (v := ?_) (a' := ?_) #[true, true, true, true, true, true, true, false, false, true, true, true, false, false, false, false, false, false, false, false] rfl rfl (by kernel_rfl) (fun _ _ _ h => h) (Or.inl ⟨by rfl, ?_⟩) hHeld ?_ ?_
    rotate_left
    · rintro w' ⟨s0, s1, s2⟩
      go_simp
      with_reducible rfl
    rotate_left
    · simp only [Act.put, List.setIfInBounds_toArray, List.set_cons_zero, List.set_cons_succ, i64_w, i32_w]
      rfl
    refine take_ (i := 7) (N := some 24) (v := ?_) (a' := ?_) #[true, true, true, true, true, true, true, true, false, true, true, true, false, false, false, false, false, false, false, false] rfl rfl (by kernel_rfl) (fun _ _ _ h => h) (Or.inl ⟨by rfl, ?_⟩) hHeld ?_ ?_
    rotate_left
    · rintro w' ⟨s0, s1, s2⟩
      go_simp
      with_reducible rfl
    rotate_left
    · simp only [Act.put, List.setIfInBounds_toArray, List.set_cons_zero, List.set_cons_succ, i64_w, i32_w]
      rfl
    refine pure_ (i := 8) (N := some 25) (v := ?_) (a' := ?_) #[true, true, true, true, true, true, true, true, true, true, true, true, false, false, false, false, false, false, false, false] rfl rfl (by kernel_rfl) (fun _ _ _ h => h) (Or.inl ⟨by rfl, ?_⟩) ?_ ?_
    rotate_left
    · intro w'
      go_simp
      with_reducible rfl
    rotate_left
    · simp only [Act.put, List.setIfInBounds_toArray, List.set_cons_zero, List.set_cons_succ, i64_w, i32_w]
      rfl
    refine take_ (i := 12) (N := some 29) (v := ?_) (a' := ?_) #[true, true, true, true, true, true, true, true, true, true, true, true, true, false, false, false, false, false, false, false] rfl rfl (by kernel_rfl) (fun _ _ _ h => h) (Or.inl ⟨by rfl, ?_⟩) hHeld ?_ ?_
    rotate_left
    · rintro w' ⟨s0, s1, s2⟩
      go_simp
      with_reducible rfl
    rotate_left
    · simp only [Act.put, List.setIfInBounds_toArray, List.set_cons_zero, List.set_cons_succ, i64_w, i32_w]
      rfl
    refine pure_ (i := 13) (N := some 30) (v := ?_) (a' := ?_) #[true, true, true, true, true, true, true, true, true, true, true, true, true, true, false, false, false, false, false, false] rfl rfl (by kernel_rfl) (fun _ _ _ h => h) (Or.inl ⟨by rfl, ?_⟩) ?_ ?_
    rotate_left
    · intro w'
      go_simp
      with_reducible rfl
    rotate_left
    · simp only [Act.put, List.setIfInBounds_toArray, List.set_cons_zero, List.set_cons_succ, i64_w, i32_w]
      rfl
    refine last_ (i := 14) (N := some 31) #[true, true, true, true, true, true, true, true, true, true, true, true, true, true, true, false, false, false, false, false] rfl rfl (by kernel_rfl) (by decide) (fun K hK => ?_)
    refine goes_ Tryz.func24 (by kernel_rfl) rfl #[.pointer (some ⟨p, 0, none⟩), .int .i64 ((8 * a : Nat) : Int), .int .i64 ((8 * k : Nat) : Int)] (by rfl) rfl rfl (by simp only [List.map_toArray, List.map_cons, List.map_nil]; rfl) ?_
    with_reducible refine (HK.out).mono ?_
    rintro e w1 ⟨A1, c1, rfl, hc1, hr1, hb1⟩
    refine ⟨_, rfl, ?_⟩
    have HR1 := Aside0.mk hr1
    have HC1 := Aside0.mk hc1
    have HB1 := Aside0.mk (bel_step (Below.refl w.heap.size w).drew hb1)
    clear hc1 hr1 hb1
    refine hK.out _ _ ?_
    clear hK K
    refine norm_ (a' := ?_) ?_ ?_
    rotate_left
    · show Act.put _ (some 31) _ = _
      simp only [Act.put, List.setIfInBounds_toArray, List.set_cons_zero, List.set_cons_succ, i64_w, i32_w]
      rfl
    refine pure_ (i := 15) (N := some 16) (v := ?_) (a' := ?_) #[true, true, true, true, true, true, true, true, true, true, true, true, true, true, true, true, false, false, false, false] rfl rfl (by kernel_rfl) (fun _ _ _ h => h) (Or.inl ⟨by rfl, ?_⟩) ?_ ?_
    rotate_left
    · intro w'
      go_simp
      with_reducible rfl
    rotate_left
    · simp only [Act.put, List.setIfInBounds_toArray, List.set_cons_zero, List.set_cons_succ, i64_w, i32_w]
      rfl
    refine pure_ (i := 16) (N := some 32) (v := ?_) (a' := ?_) #[true, true, true, true, true, true, true, true, true, true, true, true, true, true, true, true, true, false, false, false] rfl rfl (by kernel_rfl) (fun _ _ _ h => h) (Or.inl ⟨by rfl, ?_⟩) ?_ ?_
    rotate_left
    · intro w'
      go_simp
      with_reducible rfl
    rotate_left
    · simp only [Act.put, List.setIfInBounds_toArray, List.set_cons_zero, List.set_cons_succ, i64_w, i32_w]
      rfl
    refine pure_ (i := 17) (N := some 33) (v := ?_) (a' := ?_) #[true, true, true, true, true, true, true, true, true, true, true, true, true, true, true, true, true, true, false, false] rfl rfl (by kernel_rfl) (fun _ _ _ h => h) (Or.inl ⟨by rfl, ?_⟩) ?_ ?_
    rotate_left
    · intro w'
      go_simp
      with_reducible rfl
    rotate_left
    · simp only [Act.put, List.setIfInBounds_toArray, List.set_cons_zero, List.set_cons_succ, i64_w, i32_w]
      rfl
    refine pure_ (i := 18) (N := some 4) (v := ?_) (a' := ?_) #[true, true, true, true, true, true, true, true, true, true, true, true, true, true, true, true, true, true, true, false] rfl rfl (by kernel_rfl) (fun _ _ _ h => h) (Or.inl ⟨by rfl, ?_⟩) ?_ ?_
    rotate_left
    · intro w'
      go_simp
      with_reducible rfl
    rotate_left
    · simp only [Act.put, List.setIfInBounds_toArray, List.set_cons_zero, List.set_cons_succ, i64_w, i32_w]
      rfl
    refine pure_ (i := 19) (N := some 5) (v := ?_) (a' := ?_) #[true, true, true, true, true, true, true, true, true, true, true, true, true, true, true, true, true, true, true, true] rfl rfl (by kernel_rfl) (fun _ _ _ h => h) (Or.inl ⟨by rfl, ?_⟩) ?_ ?_
    rotate_left
    · intro w'
      go_simp
      with_reducible rfl
    rotate_left
    · simp only [Act.put, List.setIfInBounds_toArray, List.set_cons_zero, List.set_cons_succ, i64_w, i32_w]
      rfl
    refine done_ (by kernel_rfl) ?_
    go_wp2_with (first | (go_at_call 56; (first | ((with_reducible refine (HGM.out _ _ _ HR1.out).mono ?_); rintro e w2 ⟨rfl, hb2⟩; have HR2 := Aside0.mk (HR1.out.below hb2); have HB2 := Aside0.mk (bel_step HB1.out hb2); clear hb2) | ((with_reducible refine (HGQ.out _ _ _ HR2.out).mono ?_); rintro e w3 ⟨rfl, hb3⟩; have HB3 := Aside0.mk (bel_step HB2.out hb3); clear hb3))) | (go_at_call 9; ((with_reducible refine (HRM.out _ (HL.out.below HB3.out)).mono ?_); rintro e w4 ⟨rfl, rfl⟩)))
    go_ret2
    exact ⟨_, rfl, Kd.R_nil _ _ _ _ _, HB3.out⟩
theorem rowSt_lower {W : World} {base base' : Nat} {v : Value} {l : List SetT} (h : RowSt W base v l) (hb : base' ≤ base) : RowSt W base' v l := by
  obtain ⟨h0, ho⟩ := R_flat.1 h
  refine R_flat.2 ⟨h0, ho.1, ?_⟩
  rcases ho.2 with h2 | ⟨g, cap, cur, e, hg, r⟩
  · exact .inl h2
  · exact .inr ⟨g, cap, cur, e, Nat.le_trans hb hg, r⟩
theorem recB_fail {n a k : Nat} {b : List Int} (hg : ¬ BadH k b) {j : Nat} (hj : j < (manyB b).toNat) (h : okB n a k (atB b j) = false) : recB n a k b = (0, []) := by
  rw [recB, if_neg hg, if_pos]
  rw [List.all_eq_false]
  exact ⟨(atB b j, nB b j), List.mem_map.2 ⟨j, List.mem_range.2 hj, rfl⟩, by simp [h]⟩
theorem recB_all {n a k : Nat} {b : List Int} (hg : ¬ BadH k b) (h : ∀ j, j < (manyB b).toNat → okB n a k (atB b j) = true) :
    recB n a k b = if headL (manyB b) (seqB b) (bodyL (setsB b (manyB b).toNat)) = b.take 8 then (seqB b, setsB b (manyB b).toNat) else (0, []) := by
  rw [recB, if_neg hg, if_neg]
  rw [Bool.not_eq_false, List.all_eq_true]
  intro s hs
  obtain ⟨j, hj, rfl⟩ := List.mem_map.1 hs
  exact h j (List.mem_range.1 hj)
theorem posB {b : List Int} (hb : Bys b) {m : Nat} (hm : 8 + 16 * m ≤ b.length) {n a k : Nat} (h : ∀ j, j < m → okB n a k (atB b j) = true) : ∀ s ∈ setsB b m, PosSt s := by
  intro s hs
  obtain ⟨j, hj, rfl⟩ := List.mem_map.1 hs
  have hj := List.mem_range.1 hj
  have h1 := h j hj
  simp only [okB, mayB, Bool.and_eq_true, decide_eq_true_eq] at h1
  have h2 := num_lt hb (a := 16 + 16 * j) (m := 8) (by omega)
  exact ⟨h1.2.1, by show atB b j ≤ _; omega, h2.1, by show nB b j < _; unfold nB; exact h2.2⟩
set_option maxRecDepth 100000 in
set_option maxHeartbeats 8000000 in
theorem record_go (w : World) (q p : Nat) (v : Value) (s f : Nat) (d : Dev) (a k nx : Nat) (hd : HasD w p v s f d) (h : HasL w q p a k nx) (h1 : 1 ≤ k) (hak : a + k ≤ d.B.length / 8) (hgood : ¬ BadH k (cut d.B (8 * a) (8 * k))) : Calls Tryz.prog 26 #[.pointer (some ⟨q, 0, none⟩)] w (RecE w (recB (d.B.length / 8) a k (cut d.B (8 * a) (8 * k)))) := by
  have HD := Aside0.mk hd
  have HL := Aside0.mk h
  have hm := hd.ok.max
  obtain ⟨c0, c1, c2, c3⟩ := h.cells
  have HK := Aside0.mk (read_reg w.drew p v s f d a k (hd.move (Below.refl _ _).drew) hak)
  have hbl : (cut d.B (8 * a) (8 * k)).length = 8 * k := cut_length (by omega)
  have HBY := Aside0.mk (show Bys (cut d.B (8 * a) (8 * k)) from cut_bys hd.ok.bys _ _)
  obtain ⟨b, hb⟩ : ∃ b, b = cut d.B (8 * a) (8 * k) := ⟨_, rfl⟩
  rw [← hb] at hgood HK HBY hbl ⊢
  have m0 := num_lt HBY.out (a := 0) (m := 2) (by omega)
  have s0 := num_lt HBY.out (a := 2) (m := 4) (by omega)
  obtain ⟨M, hM⟩ : ∃ M, M = manyB b := ⟨_, rfl⟩
  obtain ⟨Q, hQ⟩ : ∃ Q, Q = seqB b := ⟨_, rfl⟩
  rw [show numL (cut b 0 2) = M from hM.symm] at m0
  rw [show numL (cut b 2 4) = Q from hQ.symm] at s0
  obtain ⟨m, hmm⟩ : ∃ m : Nat, M = m := ⟨M.toNat, by omega⟩
  subst hmm
  have e1 : IntKind.i64.wrap ((a : Int) * 8) = ((8 * a : Nat) : Int) := by rw [IntWalk.i64_in _ (by omega)]; omega
  have e2 : IntKind.i64.wrap ((k : Int) * 8) = ((8 * k : Nat) : Int) := by rw [IntWalk.i64_in _ (by omega)]; omega
  have e3 : IntKind.i64.wrap (m : Int) = m := IntWalk.i64_in _ (by omega)
  have e3q : IntKind.i64.wrap Q = Q := IntWalk.i64_in _ (by omega)
  have HGM := Aside0.mk (fun (A : Option Addr) (c : Nat) (W : World) (hr : ReadsInt W .u8 A b.length b) => show Calls Tryz.prog 56 #[.slice A b.length c, .int .i64 0, .int .i64 2] W (fun e w' => e = .returned (.tuple #[.int .u64 m, .bool true]) ∧ Below W.heap.size W w') from by rw [hM]; exact get_in A c b 0 2 W hr HBY.out (.inl rfl) (by omega))
  have HGQ := Aside0.mk (fun (A : Option Addr) (c : Nat) (W : World) (hr : ReadsInt W .u8 A b.length b) => show Calls Tryz.prog 56 #[.slice A b.length c, .int .i64 2, .int .i64 4] W (fun e w' => e = .returned (.tuple #[.int .u64 Q, .bool true]) ∧ Below W.heap.size W w') from by rw [hQ]; exact get_in A c b 2 4 W hr HBY.out (.inr (.inl rfl)) (by omega))
  have HGA := Aside0.mk (fun (j : Nat) (hj : 8 + 16 * j + 8 ≤ b.length) (A : Option Addr) (c : Nat) (W : World) (z : Int) (hz : z = 8 + 16 * j) (hr : ReadsInt W .u8 A b.length b) => show Calls Tryz.prog 56 #[.slice A b.length c, .int .i64 z, .int .i64 8] W (fun e w' => e = .returned (.tuple #[.int .u64 (atB b j), .bool true]) ∧ Below W.heap.size W w') from by rw [show z = ((8 + 16 * j : Nat) : Int) by omega]; exact get_in A c b (8 + 16 * j) 8 W hr HBY.out (.inr (.inr rfl)) hj)
  have HGN := Aside0.mk (fun (j : Nat) (hj : 16 + 16 * j + 8 ≤ b.length) (A : Option Addr) (c : Nat) (W : World) (z : Int) (hz : z = 16 + 16 * j) (hr : ReadsInt W .u8 A b.length b) => show Calls Tryz.prog 56 #[.slice A b.length c, .int .i64 z, .int .i64 8] W (fun e w' => e = .returned (.tuple #[.int .u64 (nB b j), .bool true]) ∧ Below W.heap.size W w') from by rw [show z = ((16 + 16 * j : Nat) : Int) by omega]; exact get_in A c b (16 + 16 * j) 8 W hr HBY.out (.inr (.inr rfl)) hj)
  have hb3 : 1 ≤ (m : Int) ∧ (m : Int) ≤ (((k - 1) / 2 : Nat) : Int) ∧ 1 ≤ Q := by
    simp only [BadH, ← hM, ← hQ] at hgood
    omega
  obtain ⟨r, hr⟩ : ∃ r : Nat, r = (k - 1) / 2 := ⟨_, rfl⟩
  have HRM := Aside0.mk (fun (W : World) (hl : HasL W q p a k nx) => room4_calls W q p a k nx hl h1 (by omega))
  rw [← hr] at hb3 HRM
  have hrk : 2 * r + 1 ≤ k := by omega
  obtain ⟨z1, z2, z3⟩ := hb3
  have d1 : decide ((r : Int) < (m : Int)) = false := decide_eq_false (by omega)
  have d1n : decide (r < m) = false := decide_eq_false (by omega)
  have d2 : decide ((m : Int) < 1) = false := decide_eq_false (by omega)
  have d3 : decide (Q < 1) = false := decide_eq_false (by omega)
  have HGD := Aside0.mk hgood
  have hmn : (manyB b).toNat = m := by rw [← hM]; rfl
  obtain ⟨n, hn⟩ : ∃ n : Nat, n = d.B.length / 8 := ⟨_, rfl⟩
  have HMY := Aside0.mk (fun (W : World) (x : SetT) (hh : HasD W p v s f d) (hl : HasL W q p a k nx) => may_calls W q p v s f d a k nx x hh hl (by omega))
  rw [← hn] at HMY ⊢
  have HFL := Aside0.mk (fun (j : Nat) (hj : j < m) (hf : okB n a k (atB b j) = false) => recB_fail HGD.out (by rw [hmn]; exact hj) hf)
  have HAL := Aside0.mk (fun (hf : ∀ j, j < m → okB n a k (atB b j) = true) => show recB n a k b = if headL m Q (bodyL (setsB b m)) = b.take 8 then (Q, setsB b m) else (0, []) from by rw [recB_all HGD.out (by rw [hmn]; exact hf), hmn, ← hM, ← hQ])
  have HPS := Aside0.mk (fun (hf : ∀ j, j < m → okB n a k (atB b j) = true) => posB HBY.out (m := m) (by omega) hf)
  have HBL := Aside0.mk hbl
  have hb8 : 8 ≤ b.length := by omega
  have hb9 : b.length ≤ 65536 := by omega
  have HMB := Aside0.mk (show 8 + 16 * m ≤ b.length by omega)
  obtain ⟨R, hR⟩ : ∃ R, R = recB n a k b := ⟨_, rfl⟩
  rw [← hR] at HFL HAL ⊢
  clear hd h hgood hM hQ hb hr hbl hmn hR hn
  go_enter Tryz.func26, Tryz.ntmps26
  go_wp2_with fail
  refine start_ (n := 20) (S := fun w' => w'.cell? ⟨q, 0, none⟩ = some (.pointer (some ⟨p, 0, none⟩)) ∧ w'.cell? ⟨q, 1, none⟩ = some (.int .i64 a) ∧ w'.cell? ⟨q, 2, none⟩ = some (.int .i64 k)) (ds := [14]) #[false, false, false, false, false, false, false, false, false, false, false, false, false, false, false, false, false, false, false, false] (by kernel_rfl) rfl rfl ⟨c0, c1, c2⟩ (fun hHeld => ?_)
  refine pure_ (i := 0) (N := some 17) (v := ?_) (a' := ?_) #[true, false, false, false, false, false, false, false, false, false, false, false, false, false, false, false, false, false, false, false] rfl rfl (by kernel_rfl) (fun _ _ _ h => h) (Or.inl ⟨by rfl, ?_⟩) ?_ ?_
  rotate_left
  · intro w'
    go_simp
    with_reducible rfl
  rotate_left
  · simp only [Act.put, List.setIfInBounds_toArray, List.set_cons_zero, List.set_cons_succ, i64_w, i32_w]
    rfl
  refine pure_ (i := 1) (N := some 18) (v := ?_) (a' := ?_) #[true, true, false, false, false, false, false, false, false, false, false, false, false, false, false, false, false, false, false, false] rfl rfl (by kernel_rfl) (fun _ _ _ h => h) (Or.inl ⟨by rfl, ?_⟩) ?_ ?_
  rotate_left
  · intro w'
    go_simp
    with_reducible rfl
  rotate_left
  · simp only [Act.put, List.setIfInBounds_toArray, List.set_cons_zero, List.set_cons_succ, i64_w, i32_w]
    rfl
  refine pure_ (i := 2) (N := some 19) (v := ?_) (a' := ?_) #[true, true, true, false, false, false, false, false, false, false, false, false, false, false, false, false, false, false, false, false] rfl rfl (by kernel_rfl) (fun _ _ _ h => h) (Or.inl ⟨by rfl, ?_⟩) ?_ ?_
  rotate_left
  · intro w'
    go_simp
    with_reducible rfl
  rotate_left
  · simp only [Act.put, List.setIfInBounds_toArray, List.set_cons_zero, List.set_cons_succ, i64_w, i32_w]
    rfl
  refine pure_ (i := 4) (N := some 21) (v := ?_) (a' := ?_) #[true, true, true, false, true, false, false, false, false, false, false, false, false, false, false, false, false, false, false, false] rfl rfl (by kernel_rfl) (fun _ _ _ h => h) (Or.inl ⟨by rfl, ?_⟩) ?_ ?_
  rotate_left
  · intro w'
    go_simp
    with_reducible rfl
  rotate_left
  · simp only [Act.put, List.setIfInBounds_toArray, List.set_cons_zero, List.set_cons_succ, i64_w, i32_w]
    rfl
  refine pure_ (i := 5) (N := some 22) (v := ?_) (a' := ?_) #[true, true, true, false, true, true, false, false, false, false, false, false, false, false, false, false, false, false, false, false] rfl rfl (by kernel_rfl) (fun _ _ _ h => h) (Or.inl ⟨by rfl, ?_⟩) ?_ ?_
  rotate_left
  · intro w'
    go_simp
    with_reducible rfl
  rotate_left
  · simp only [Act.put, List.setIfInBounds_toArray, List.set_cons_zero, List.set_cons_succ, i64_w, i32_w]
    rfl
  refine pure_ (i := 6) (N := some 23) (v := ?_) (a' := ?_) #[true, true, true, false, true, true, true, false, false, false, false, false, false, false, false, false, false, false, false, false] rfl rfl (by kernel_rfl) (fun _ _ _ h => h) (Or.inl ⟨by rfl, ?_⟩) ?_ ?_
  rotate_left
  · intro w'
    go_simp
    with_reducible rfl
  rotate_left
  · simp only [Act.put, List.setIfInBounds_toArray, List.set_cons_zero, List.set_cons_succ, i64_w, i32_w]
    rfl
  refine pure_ (i := 9) (N := some 26) (v := ?_) (a' := ?_) #[true, true, true, false, true, true, true, false, false, true, false, false, false, false, false, false, false, false, false, false] rfl rfl (by kernel_rfl) (fun _ _ _ h => h) (Or.inl ⟨by rfl, ?_⟩) ?_ ?_
  rotate_left
  · intro w'
    go_simp
    with_reducible rfl
  rotate_left
  · simp only [Act.put, List.setIfInBounds_toArray, List.set_cons_zero, List.set_cons_succ, i64_w, i32_w]
    rfl
  refine pure_ (i := 10) (N := some 27) (v := ?_) (a' := ?_) #[true, true, true, false, true, true, true, false, false, true, true, false, false, false, false, false, false, false, false, false] rfl rfl (by kernel_rfl) (fun _ _ _ h => h) (Or.inl ⟨by rfl, ?_⟩) ?_ ?_
  rotate_left
  · intro w'
    go_simp
    with_reducible rfl
  rotate_left
  · simp only [Act.put, List.setIfInBounds_toArray, List.set_cons_zero, List.set_cons_succ, i64_w, i32_w]
    rfl
  refine pure_ (i := 11) (N := some 28) (v := ?_) (a' := ?_) #[true, true, true, false, true, true, true, false, false, true, true, true, false, false, false, false, false, false, false, false] rfl rfl (by kernel_rfl) (fun _ _ _ h => h) (Or.inl ⟨by rfl, ?_⟩) ?_ ?_
  rotate_left
  · intro w'
    go_simp
    with_reducible rfl
  rotate_left
  · simp only [Act.put, List.setIfInBounds_toArray, List.set_cons_zero, List.set_cons_succ, i64_w, i32_w]
    rfl
  refine take_ (i := 3) (N := some 20) (v := ?_) (a' := ?_) #[true, true, true, true, true, true, true, false, false, true, true, true, false, false, false, false, false, false, false, false] rfl rfl (by kernel_rfl) (fun _ _ _ h => h) (Or.inl ⟨by rfl, ?_⟩) hHeld ?_ ?_
  rotate_left
  · rintro w' ⟨s0, s1, s2⟩
    go_simp
    with_reducible rfl
  rotate_left
  · simp only [Act.put, List.setIfInBounds_toArray, List.set_cons_zero, List.set_cons_succ, i64_w, i32_w]
    rfl
  refine take_ (i := 7) (N := some 24) (v := ?_) (a' := ?_) #[true, true, true, true, true, true, true, true, false, true, true, true, false, false, false, false, false, false, false, false] rfl rfl (by kernel_rfl) (fun _ _ _ h => h) (Or.inl ⟨by rfl, ?_⟩) hHeld ?_ ?_
  rotate_left
  · rintro w' ⟨s0, s1, s2⟩
    go_simp
    with_reducible rfl
  rotate_left
  · simp only [Act.put, List.setIfInBounds_toArray, List.set_cons_zero, List.set_cons_succ, i64_w, i32_w]
    rfl
  refine pure_ (i := 8) (N := some 25) (v := ?_) (a' := ?_) #[true, true, true, true, true, true, true, true, true, true, true, true, false, false, false, false, false, false, false, false] rfl rfl (by kernel_rfl) (fun _ _ _ h => h) (Or.inl ⟨by rfl, ?_⟩) ?_ ?_
  rotate_left
  · intro w'
    go_simp
    with_reducible rfl
  rotate_left
  · simp only [Act.put, List.setIfInBounds_toArray, List.set_cons_zero, List.set_cons_succ, i64_w, i32_w]
    rfl
  refine take_ (i := 12) (N := some 29) (v := ?_) (a' := ?_) #[true, true, true, true, true, true, true, true, true, true, true, true, true, false, false, false, false, false, false, false] rfl rfl (by kernel_rfl) (fun _ _ _ h => h) (Or.inl ⟨by rfl, ?_⟩) hHeld ?_ ?_
  rotate_left
  · rintro w' ⟨s0, s1, s2⟩
    go_simp
    with_reducible rfl
  rotate_left
  · simp only [Act.put, List.setIfInBounds_toArray, List.set_cons_zero, List.set_cons_succ, i64_w, i32_w]
    rfl
  refine pure_ (i := 13) (N := some 30) (v := ?_) (a' := ?_) #[true, true, true, true, true, true, true, true, true, true, true, true, true, true, false, false, false, false, false, false] rfl rfl (by kernel_rfl) (fun _ _ _ h => h) (Or.inl ⟨by rfl, ?_⟩) ?_ ?_
  rotate_left
  · intro w'
    go_simp
    with_reducible rfl
  rotate_left
  · simp only [Act.put, List.setIfInBounds_toArray, List.set_cons_zero, List.set_cons_succ, i64_w, i32_w]
    rfl
  refine last_ (i := 14) (N := some 31) #[true, true, true, true, true, true, true, true, true, true, true, true, true, true, true, false, false, false, false, false] rfl rfl (by kernel_rfl) (by decide) (fun K hK => ?_)
  refine goes_ Tryz.func24 (by kernel_rfl) rfl #[.pointer (some ⟨p, 0, none⟩), .int .i64 ((8 * a : Nat) : Int), .int .i64 ((8 * k : Nat) : Int)] (by rfl) rfl rfl (by simp only [List.map_toArray, List.map_cons, List.map_nil]; rfl) ?_
  with_reducible refine (HK.out).mono ?_
  rintro e w1 ⟨A1, c1, rfl, hc1, hr1, hb1⟩
  refine ⟨_, rfl, ?_⟩
  have HR1 := Aside0.mk hr1
  have HC1 := Aside0.mk hc1
  have HB1 := Aside0.mk (bel_step (Below.refl w.heap.size w).drew hb1)
  clear hc1 hr1 hb1
  refine hK.out _ _ ?_
  clear hK K
  refine norm_ (a' := ?_) ?_ ?_
  rotate_left
  · show Act.put _ (some 31) _ = _
    simp only [Act.put, List.setIfInBounds_toArray, List.set_cons_zero, List.set_cons_succ, i64_w, i32_w]
    rfl
  refine pure_ (i := 15) (N := some 16) (v := ?_) (a' := ?_) #[true, true, true, true, true, true, true, true, true, true, true, true, true, true, true, true, false, false, false, false] rfl rfl (by kernel_rfl) (fun _ _ _ h => h) (Or.inl ⟨by rfl, ?_⟩) ?_ ?_
  rotate_left
  · intro w'
    go_simp
    with_reducible rfl
  rotate_left
  · simp only [Act.put, List.setIfInBounds_toArray, List.set_cons_zero, List.set_cons_succ, i64_w, i32_w]
    rfl
  refine pure_ (i := 16) (N := some 32) (v := ?_) (a' := ?_) #[true, true, true, true, true, true, true, true, true, true, true, true, true, true, true, true, true, false, false, false] rfl rfl (by kernel_rfl) (fun _ _ _ h => h) (Or.inl ⟨by rfl, ?_⟩) ?_ ?_
  rotate_left
  · intro w'
    go_simp
    with_reducible rfl
  rotate_left
  · simp only [Act.put, List.setIfInBounds_toArray, List.set_cons_zero, List.set_cons_succ, i64_w, i32_w]
    rfl
  refine pure_ (i := 17) (N := some 33) (v := ?_) (a' := ?_) #[true, true, true, true, true, true, true, true, true, true, true, true, true, true, true, true, true, true, false, false] rfl rfl (by kernel_rfl) (fun _ _ _ h => h) (Or.inl ⟨by rfl, ?_⟩) ?_ ?_
  rotate_left
  · intro w'
    go_simp
    with_reducible rfl
  rotate_left
  · simp only [Act.put, List.setIfInBounds_toArray, List.set_cons_zero, List.set_cons_succ, i64_w, i32_w]
    rfl
  refine pure_ (i := 18) (N := some 4) (v := ?_) (a' := ?_) #[true, true, true, true, true, true, true, true, true, true, true, true, true, true, true, true, true, true, true, false] rfl rfl (by kernel_rfl) (fun _ _ _ h => h) (Or.inl ⟨by rfl, ?_⟩) ?_ ?_
  rotate_left
  · intro w'
    go_simp
    with_reducible rfl
  rotate_left
  · simp only [Act.put, List.setIfInBounds_toArray, List.set_cons_zero, List.set_cons_succ, i64_w, i32_w]
    rfl
  refine pure_ (i := 19) (N := some 5) (v := ?_) (a' := ?_) #[true, true, true, true, true, true, true, true, true, true, true, true, true, true, true, true, true, true, true, true] rfl rfl (by kernel_rfl) (fun _ _ _ h => h) (Or.inl ⟨by rfl, ?_⟩) ?_ ?_
  rotate_left
  · intro w'
    go_simp
    with_reducible rfl
  rotate_left
  · simp only [Act.put, List.setIfInBounds_toArray, List.set_cons_zero, List.set_cons_succ, i64_w, i32_w]
    rfl
  refine done_ (by kernel_rfl) ?_
  have HRW := Aside0.mk (show ∀ W, Below w1.heap.size w1 W → ReadsInt W .u8 A1 b.length b from fun W hW => HR1.out.below hW)
  go_wp2_with (first | (go_at_call 56; (first | ((with_reducible refine (HGM.out _ _ _ HR1.out).mono ?_); rintro e w2 ⟨rfl, hb2⟩; have HB2 := Aside0.mk hb2; clear hb2) | ((with_reducible refine (HGQ.out _ _ _ (HRW.out _ HB2.out)).mono ?_); rintro e w3 ⟨rfl, hb3⟩; have HB3 := Aside0.mk (bel_step HB2.out hb3); clear hb3))) | (go_at_call 9; ((with_reducible refine (HRM.out _ (HL.out.below (bel_step HB1.out HB3.out))).mono ?_); rintro e w4 ⟨rfl, rfl⟩)))
  go_loopw [10, 59] (fun u i wr => ∃ j : Nat, j ≤ m ∧ i = .int .i64 j ∧ Aside0 (RowSt wr w1.heap.size u (setsB b j)) ∧ Aside0 (∀ t, t < j → okB n a k (atB b t) = true) ∧ Aside0 (Below w1.heap.size w1 wr)) (fun _ i _ => (m - intOf i).toNat)
  case atStart => exact ⟨0, Nat.zero_le _, rfl, ⟨Kd.R_nil _ _ _ _ _⟩, ⟨fun t ht => absurd ht (Nat.not_lt_zero _)⟩, HB3⟩
  case round =>
    obtain ⟨j, hj, rfl, HV, HO, HB⟩ := hrel
    by_cases hlt : j < m
    · have e4 : IntKind.i64.wrap (2 * (j : Int)) = 2 * j := IntWalk.i64_in _ (by omega)
      have e5 : IntKind.i64.wrap (1 + 2 * (j : Int)) = 1 + 2 * j := IntWalk.i64_in _ (by omega)
      have e6 : IntKind.i64.wrap (2 + 2 * (j : Int)) = 2 + 2 * j := IntWalk.i64_in _ (by omega)
      have e7 : IntKind.i64.wrap ((1 + 2 * (j : Int)) * 8) = (1 + 2 * j) * 8 := IntWalk.i64_in _ (by omega)
      have e8 : IntKind.i64.wrap ((2 + 2 * (j : Int)) * 8) = (2 + 2 * j) * 8 := IntWalk.i64_in _ (by omega)
      have HA := Aside0.mk (HGA.out j (by have := HMB.out; omega))
      have HN := Aside0.mk (HGN.out j (by have := HMB.out; omega))
      have x0 := (num_lt HBY.out (a := 8 + 16 * j) (m := 8) (by have := HMB.out; omega)).1
      have HFJ := Aside0.mk (HFL.out j hlt)
      have HSU := Aside0.mk (setsB_succ b j)
      have HSL := Aside0.mk (setsB_length b j)
      obtain ⟨x, hx⟩ : ∃ x, x = atB b j := ⟨_, rfl⟩
      obtain ⟨y, hy⟩ : ∃ y, y = nB b j := ⟨_, rfl⟩
      rw [show numL (cut b (8 + 16 * j) 8) = x from hx.symm] at x0
      rw [← hx] at HA HFJ HSU
      rw [← hy] at HN HSU
      have HX := Aside0.mk hx
      clear hx hy
      obtain ⟨L, hL⟩ : ∃ L, L = setsB b j := ⟨_, rfl⟩
      rw [← hL] at HV HSU HSL
      clear hL
      rcases (show 8192 < x ∨ (x ≤ 8192 ∧ mayB n a k x = false) ∨ (x ≤ 8192 ∧ mayB n a k x = true) by cases mayB n a k x <;> simp <;> omega) with z4 | ⟨z4, z5⟩ | ⟨z4, z5⟩
      · have HRE := Aside0.mk (HFJ.out (by rw [okB, decide_eq_false (by omega)]; rfl))
        go_wp2_with (go_at_call 56; (first | ((with_reducible refine (HA.out _ _ _ _ (by omega) (HRW.out _ HB.out)).mono ?_); rintro e w5 ⟨rfl, hb5⟩; have HB5 := Aside0.mk (bel_step HB.out hb5); clear hb5) | ((with_reducible refine (HN.out _ _ _ _ (by omega) (HRW.out _ HB5.out)).mono ?_); rintro e w6 ⟨rfl, hb6⟩; have HB6 := Aside0.mk (bel_step HB5.out hb6); clear hb6)))
        go_ret2
        rw [HRE.out]
        exact ⟨_, rfl, Kd.R_nil _ _ _ _ _, bel_step HB1.out HB6.out⟩
      · have HRE := Aside0.mk (HFJ.out (by rw [okB, z5, Bool.and_false]))
        have e9 : IntKind.i64.wrap x = x := IntWalk.i64_in _ (by omega)
        go_wp2_with (first | (go_at_call 56; (first | ((with_reducible refine (HA.out _ _ _ _ (by omega) (HRW.out _ HB.out)).mono ?_); rintro e w5 ⟨rfl, hb5⟩; have HB5 := Aside0.mk (bel_step HB.out hb5); have HBA5 := Aside0.mk hb5; clear hb5) | ((with_reducible refine (HN.out _ _ _ _ (by omega) (HRW.out _ HB5.out)).mono ?_); rintro e w6 ⟨rfl, hb6⟩; have HB6 := Aside0.mk (bel_step HB5.out hb6); have HV6 := Aside0.mk (Kd.R_below (Kd.R_below HV.out HBA5.out) hb6); clear hb6))) | (go_at_call 31; ((with_reducible refine (HMY.out _ (x, y) (HD.out.move (bel_step HB1.out HB6.out)) (HL.out.below (bel_step HB1.out HB6.out))).mono ?_); rintro e w7 ⟨rfl, hb7⟩; have HB7 := Aside0.mk (bel_step HB6.out hb7); have HV7 := Aside0.mk (Kd.R_below HV6.out hb7); clear hb7)))
        go_ret2
        rw [HRE.out]
        exact ⟨_, rfl, Kd.R_nil _ _ _ _ _, bel_step HB1.out HB7.out⟩
      · have HOK := Aside0.mk (show okB n a k x = true by rw [okB, z5, decide_eq_true z4]; rfl)
        have e9 : IntKind.i64.wrap x = x := IntWalk.i64_in _ (by omega)
        go_wp2_with (first | (go_at_call 56; (first | ((with_reducible refine (HA.out _ _ _ _ (by omega) (HRW.out _ HB.out)).mono ?_); rintro e w5 ⟨rfl, hb5⟩; have HB5 := Aside0.mk (bel_step HB.out hb5); have HBA5 := Aside0.mk hb5; clear hb5) | ((with_reducible refine (HN.out _ _ _ _ (by omega) (HRW.out _ HB5.out)).mono ?_); rintro e w6 ⟨rfl, hb6⟩; have HB6 := Aside0.mk (bel_step HB5.out hb6); have HV6 := Aside0.mk (Kd.R_below (Kd.R_below HV.out HBA5.out) hb6); clear hb6))) | (go_at_call 31; ((with_reducible refine (HMY.out _ (x, y) (HD.out.move (bel_step HB1.out HB6.out)) (HL.out.below (bel_step HB1.out HB6.out))).mono ?_); rintro e w7 ⟨rfl, hb7⟩; have HB7 := Aside0.mk (bel_step HB6.out hb7); have HV7 := Aside0.mk (Kd.R_below HV6.out hb7); clear hb7)) | ((with_reducible refine gate_bi (b := .append) (xs := #[.tmp 91, .tmp 96]) rfl ?_); go_must (refine Kd.R_append SetK (w0 := w1) w1.heap.size rfl (.tmp 91) (.tmp 96) 46 66 (.agg #[.int .i64 0, .int .u64 0]) 16 rfl Tryz.underlying46 info_set rfl (by decide) (by omega) _ L (x, y) [.int .i64 x, .int .u64 y] (fun _ => True) (fun _ => False) rfl rfl rfl (fun _ hk => hk.elim) (fun _ _ => trivial) HV7.out HB7.out HB7.out.size (by have := HSL.out; omega) ?_); intro v8 w8 hr8 hb8 hg8 hat8; have HV8 := Aside0.mk hr8; have HB8 := Aside0.mk hb8; clear hr8 hb8 hg8 hat8))
        go_roundw
        case rel =>
          refine ⟨j + 1, by omega, by go_num, ⟨by rw [HSU.out]; exact HV8.out⟩, ⟨fun t ht => ?_⟩, HB8⟩
          rcases Nat.lt_or_ge t j with h | h
          · exact HO.out t h
          · rw [show t = j by omega, ← HX.out]; exact HOK.out
        case measure => simp [intOf]; omega
    · obtain rfl : j = m := by omega
      have HRE := Aside0.mk (HAL.out HO.out)
      have HPP := Aside0.mk (HPS.out HO.out)
      have HVL := Aside0.mk (setsB_length b j)
      obtain ⟨L, hL⟩ : ∃ L, L = setsB b j := ⟨_, rfl⟩
      rw [← hL] at HRE HPP HVL HV
      clear hL
      obtain ⟨A5, c5, rfl, _, hC5⟩ := flat_reads HV.out
      have HC5 := Aside0.mk (Kd.C_below hC5 (Below.refl wr.heap.size wr).drew)
      have HBD := Aside0.mk HB.out.drew
      clear hC5
      have HBO := Aside0.mk (show Calls Tryz.prog 32 #[.slice A5 L.length c5] wr.drew (fun e w' => ∃ v : Value, e = .returned v ∧ RowB w' wr.drew.heap.size v (bodyL L) ∧ Below wr.drew.heap.size wr.drew w') from body_calls wr.drew A5 c5 L HC5.out HPP.out (by have := HVL.out; omega))
      have HBLL := Aside0.mk (show (bodyL L).length ≤ 2000000 by rw [bodyL_length, HVL.out]; have := HMB.out; omega)
      have HBYH := Aside0.mk (headL_bys j Q (bodyL L))
      obtain ⟨bd, hbd⟩ : ∃ bd, bd = bodyL L := ⟨_, rfl⟩
      rw [← hbd] at HRE HBO HBLL HBYH
      obtain ⟨hh, hhh⟩ : ∃ hh, hh = headL j Q bd := ⟨_, rfl⟩
      have HHD := Aside0.mk (fun (W : World) (A : Option Addr) (c : Nat) (hr : ReadsInt W .u8 A bd.length bd) => show Calls Tryz.prog 34 #[.int .i64 j, .int .i64 Q, .slice A bd.length c] W (fun e w' => ∃ v : Value, e = .returned v ∧ RowB w' W.heap.size v hh ∧ Below W.heap.size W w') from by rw [hhh]; exact head_calls W j Q A c bd hr (by omega) (by omega) (by omega) (by omega) HBLL.out)
      rw [← hhh] at HRE HBYH
      have hcb := fun (W : World) (hW : Below w1.heap.size w1 W) => conv_take (c := c1) 8 hb8 (HRW.out W hW)
      have HCB := Aside0.mk hcb
      have h8c : (8 : Int) ≤ c1 := by have := HC1.out; omega
      have HXV := Aside0.mk (Kd.R_below HV.out (Below.refl wr.heap.size wr).drew)
      clear hbd hhh hcb
      by_cases heq : hh = b.take 8
      · have hne : ((strOfNums hh).toList == (strOfNums (b.take 8)).toList) = true := by rw [heq]; simp
        have HRE2 := Aside0.mk (show R = (Q, L) by rw [HRE.out, if_pos heq])
        clear heq
        go_wp2_with fail
        refine start_ (n := 12) (S := fun w' => (convert 22 9 (.slice A1 8 c1)).run Tryz.prog w' = .ok (.string (strOfNums (b.take 8))) w') (ds := []) #[false, false, false, false, false, false, false, false, false, false, false, false] (by kernel_rfl) rfl rfl ((HCB.out _ HBD.out)) (fun hHeld => ?_)
        refine pure_ (i := 0) (N := some 99) (v := ?_) (a' := ?_) #[true, false, false, false, false, false, false, false, false, false, false, false] rfl rfl (by kernel_rfl) (fun _ _ _ h => h) (Or.inl ⟨by rfl, ?_⟩) ?_ ?_
        rotate_left
        · intro w'
          go_simp
          with_reducible rfl
        rotate_left
        · simp only [Act.put, List.setIfInBounds_toArray, List.set_cons_zero, List.set_cons_succ, i64_w, i32_w]
          rfl
        refine pure_ (i := 1) (N := some 100) (v := ?_) (a' := ?_) #[true, true, false, false, false, false, false, false, false, false, false, false] rfl rfl (by kernel_rfl) (fun _ _ _ h => h) (Or.inl ⟨by rfl, ?_⟩) ?_ ?_
        rotate_left
        · intro w'
          go_simp
          with_reducible rfl
        rotate_left
        · simp only [Act.put, List.setIfInBounds_toArray, List.set_cons_zero, List.set_cons_succ, i64_w, i32_w]
          rfl
        refine pure_ (i := 2) (N := some 101) (v := ?_) (a' := ?_) #[true, true, true, false, false, false, false, false, false, false, false, false] rfl rfl (by kernel_rfl) (fun _ _ _ h => h) (Or.inl ⟨by rfl, ?_⟩) ?_ ?_
        rotate_left
        · intro w'
          go_simp
          with_reducible rfl
        rotate_left
        · simp only [Act.put, List.setIfInBounds_toArray, List.set_cons_zero, List.set_cons_succ, i64_w, i32_w]
          rfl
        refine pure_ (i := 3) (N := some 102) (v := ?_) (a' := ?_) #[true, true, true, true, false, false, false, false, false, false, false, false] rfl rfl (by kernel_rfl) (fun _ _ _ h => h) (Or.inl ⟨by rfl, ?_⟩) ?_ ?_
        rotate_left
        · intro w'
          go_simp
          with_reducible rfl
        rotate_left
        · simp only [Act.put, List.setIfInBounds_toArray, List.set_cons_zero, List.set_cons_succ, i64_w, i32_w]
          rfl
        refine pure_ (i := 4) (N := some 103) (v := ?_) (a' := ?_) #[true, true, true, true, true, false, false, false, false, false, false, false] rfl rfl (by kernel_rfl) (fun _ _ _ h => h) (Or.inl ⟨by rfl, ?_⟩) ?_ ?_
        rotate_left
        · intro w'
          go_simp
          with_reducible rfl
        rotate_left
        · simp only [Act.put, List.setIfInBounds_toArray, List.set_cons_zero, List.set_cons_succ, i64_w, i32_w]
          rfl
        refine pure_ (i := 8) (N := some 107) (v := ?_) (a' := ?_) #[true, true, true, true, true, false, false, false, true, false, false, false] rfl rfl (by kernel_rfl) (fun _ _ _ h => h) (Or.inl ⟨by rfl, ?_⟩) ?_ ?_
        rotate_left
        · intro w'
          go_simp
          with_reducible rfl
        rotate_left
        · simp only [Act.put, List.setIfInBounds_toArray, List.set_cons_zero, List.set_cons_succ, i64_w, i32_w]
          rfl
        refine pure_ (i := 9) (N := some 108) (v := ?_) (a' := ?_) #[true, true, true, true, true, false, false, false, true, true, false, false] rfl rfl (by kernel_rfl) (fun _ _ _ h => h) (Or.inl ⟨by rfl, ?_⟩) ?_ ?_
        rotate_left
        · intro w'
          go_simp
          with_reducible rfl
        rotate_left
        · simp only [Act.put, List.setIfInBounds_toArray, List.set_cons_zero, List.set_cons_succ, i64_w, i32_w]
          rfl
        refine take_ (i := 10) (N := some 109) (v := ?_) (a' := ?_) #[true, true, true, true, true, false, false, false, true, true, true, false] rfl rfl (by kernel_rfl) (fun _ _ _ h => h) (Or.inl ⟨by rfl, ?_⟩) hHeld ?_ ?_
        rotate_left
        · intro w' s0
          go_simp
          with_reducible rfl
        rotate_left
        · simp only [Act.put, List.setIfInBounds_toArray, List.set_cons_zero, List.set_cons_succ, i64_w, i32_w]
          rfl
        refine one_ (i := 5) (N := some 104) #[true, true, true, true, true, true, false, false, true, true, true, false] rfl rfl (by kernel_rfl) (by decide) (fun K hK => ?_)
        refine goes_ Tryz.func32 (by kernel_rfl) rfl #[.slice A5 L.length c5] (by rfl) rfl rfl (by simp only [List.map_toArray, List.map_cons, List.map_nil]; rfl) ?_
        with_reducible refine (HBO.out).mono ?_
        rintro e w5 ⟨v5, rfl, hr5, hb5⟩
        refine ⟨_, rfl, ?_⟩
        obtain ⟨A6, c6, rfl, _, hR6⟩ := reads_own2 hr5
        have HR6 := Aside0.mk hR6
        have HB5 := Aside0.mk (bel_step HBD.out hb5)
        have HX5 := Aside0.mk (Kd.R_below HXV.out hb5)
        clear hr5 hb5 hR6
        refine hK.out _ _ ((HCB.out _ HB5.out)) (fun hHeld => ?_)
        clear hK K
        refine norm_ (a' := ?_) ?_ ?_
        rotate_left
        · show Act.put _ (some 104) _ = _
          simp only [Act.put, List.setIfInBounds_toArray, List.set_cons_zero, List.set_cons_succ, i64_w, i32_w]
          rfl
        refine one_ (i := 6) (N := some 105) #[true, true, true, true, true, true, true, false, true, true, true, false] rfl rfl (by kernel_rfl) (by decide) (fun K hK => ?_)
        refine goes_ Tryz.func34 (by kernel_rfl) rfl #[.int .i64 j, .int .i64 Q, .slice A6 bd.length c6] (by rfl) rfl rfl (by simp only [List.map_toArray, List.map_cons, List.map_nil]; rfl) ?_
        with_reducible refine (HHD.out w5 A6 c6 HR6.out).mono ?_
        rintro e w6 ⟨v6, rfl, hr6, hb6⟩
        refine ⟨_, rfl, ?_⟩
        have HR7 := Aside0.mk hr6
        have HB6 := Aside0.mk (bel_step HB5.out hb6)
        have HX6 := Aside0.mk (Kd.R_below HX5.out hb6)
        clear hr6 hb6
        refine hK.out _ _ ((HCB.out _ HB6.out)) (fun hHeld => ?_)
        clear hK K
        refine norm_ (a' := ?_) ?_ ?_
        rotate_left
        · show Act.put _ (some 105) _ = _
          simp only [Act.put, List.setIfInBounds_toArray, List.set_cons_zero, List.set_cons_succ, i64_w, i32_w]
          rfl
        refine one_ (i := 7) (N := some 106) #[true, true, true, true, true, true, true, true, true, true, true, false] rfl rfl (by kernel_rfl) (by decide) (fun K hK => ?_)
        have hcv := conv_own HR7.out
        refine value_ (w1 := ?_) (v := ?_) (by rfl) rfl ?_ ?_
        rotate_left 2
        · go_simp
          constructor
          · rfl
          · rfl
        clear hcv
        refine hK.out _ _ ((HCB.out _ HB6.out)) (fun hHeld => ?_)
        clear hK K
        refine norm_ (a' := ?_) ?_ ?_
        rotate_left
        · show Act.put _ (some 106) _ = _
          simp only [Act.put, List.setIfInBounds_toArray, List.set_cons_zero, List.set_cons_succ, i64_w, i32_w]
          rfl
        refine pure_ (i := 11) (N := some 110) (v := ?_) (a' := ?_) #[true, true, true, true, true, true, true, true, true, true, true, true] rfl rfl (by kernel_rfl) (fun _ _ _ h => h) (Or.inl ⟨by rfl, ?_⟩) ?_ ?_
        rotate_left
        · intro w'
          go_simp
          with_reducible rfl
        rotate_left
        · simp only [Act.put, List.setIfInBounds_toArray, List.set_cons_zero, List.set_cons_succ, i64_w, i32_w]
          rfl
        refine done_ (by kernel_rfl) ?_
        go_wp2_with fail
        go_ret2
        rw [HRE2.out]
        exact ⟨_, rfl, rowSt_lower HX6.out HB1.out.size, bel_step HB1.out HB6.out⟩
      · have hne : ((strOfNums hh).toList == (strOfNums (b.take 8)).toList) = false := by
          rw [beq_eq_false_iff_ne]
          intro e
          exact heq (str_inj HBYH.out (fun x hx => HBY.out x (List.mem_of_mem_take hx)) (str_eqW e))
        have HRE2 := Aside0.mk (show R = (0, []) by rw [HRE.out, if_neg heq])
        clear heq
        go_wp2_with fail
        refine start_ (n := 12) (S := fun w' => (convert 22 9 (.slice A1 8 c1)).run Tryz.prog w' = .ok (.string (strOfNums (b.take 8))) w') (ds := []) #[false, false, false, false, false, false, false, false, false, false, false, false] (by kernel_rfl) rfl rfl ((HCB.out _ HBD.out)) (fun hHeld => ?_)
        refine pure_ (i := 0) (N := some 99) (v := ?_) (a' := ?_) #[true, false, false, false, false, false, false, false, false, false, false, false] rfl rfl (by kernel_rfl) (fun _ _ _ h => h) (Or.inl ⟨by rfl, ?_⟩) ?_ ?_
        rotate_left
        · intro w'
          go_simp
          with_reducible rfl
        rotate_left
        · simp only [Act.put, List.setIfInBounds_toArray, List.set_cons_zero, List.set_cons_succ, i64_w, i32_w]
          rfl
        refine pure_ (i := 1) (N := some 100) (v := ?_) (a' := ?_) #[true, true, false, false, false, false, false, false, false, false, false, false] rfl rfl (by kernel_rfl) (fun _ _ _ h => h) (Or.inl ⟨by rfl, ?_⟩) ?_ ?_
        rotate_left
        · intro w'
          go_simp
          with_reducible rfl
        rotate_left
        · simp only [Act.put, List.setIfInBounds_toArray, List.set_cons_zero, List.set_cons_succ, i64_w, i32_w]
          rfl
        refine pure_ (i := 2) (N := some 101) (v := ?_) (a' := ?_) #[true, true, true, false, false, false, false, false, false, false, false, false] rfl rfl (by kernel_rfl) (fun _ _ _ h => h) (Or.inl ⟨by rfl, ?_⟩) ?_ ?_
        rotate_left
        · intro w'
          go_simp
          with_reducible rfl
        rotate_left
        · simp only [Act.put, List.setIfInBounds_toArray, List.set_cons_zero, List.set_cons_succ, i64_w, i32_w]
          rfl
        refine pure_ (i := 3) (N := some 102) (v := ?_) (a' := ?_) #[true, true, true, true, false, false, false, false, false, false, false, false] rfl rfl (by kernel_rfl) (fun _ _ _ h => h) (Or.inl ⟨by rfl, ?_⟩) ?_ ?_
        rotate_left
        · intro w'
          go_simp
          with_reducible rfl
        rotate_left
        · simp only [Act.put, List.setIfInBounds_toArray, List.set_cons_zero, List.set_cons_succ, i64_w, i32_w]
          rfl
        refine pure_ (i := 4) (N := some 103) (v := ?_) (a' := ?_) #[true, true, true, true, true, false, false, false, false, false, false, false] rfl rfl (by kernel_rfl) (fun _ _ _ h => h) (Or.inl ⟨by rfl, ?_⟩) ?_ ?_
        rotate_left
        · intro w'
          go_simp
          with_reducible rfl
        rotate_left
        · simp only [Act.put, List.setIfInBounds_toArray, List.set_cons_zero, List.set_cons_succ, i64_w, i32_w]
          rfl
        refine pure_ (i := 8) (N := some 107) (v := ?_) (a' := ?_) #[true, true, true, true, true, false, false, false, true, false, false, false] rfl rfl (by kernel_rfl) (fun _ _ _ h => h) (Or.inl ⟨by rfl, ?_⟩) ?_ ?_
        rotate_left
        · intro w'
          go_simp
          with_reducible rfl
        rotate_left
        · simp only [Act.put, List.setIfInBounds_toArray, List.set_cons_zero, List.set_cons_succ, i64_w, i32_w]
          rfl
        refine pure_ (i := 9) (N := some 108) (v := ?_) (a' := ?_) #[true, true, true, true, true, false, false, false, true, true, false, false] rfl rfl (by kernel_rfl) (fun _ _ _ h => h) (Or.inl ⟨by rfl, ?_⟩) ?_ ?_
        rotate_left
        · intro w'
          go_simp
          with_reducible rfl
        rotate_left
        · simp only [Act.put, List.setIfInBounds_toArray, List.set_cons_zero, List.set_cons_succ, i64_w, i32_w]
          rfl
        refine take_ (i := 10) (N := some 109) (v := ?_) (a' := ?_) #[true, true, true, true, true, false, false, false, true, true, true, false] rfl rfl (by kernel_rfl) (fun _ _ _ h => h) (Or.inl ⟨by rfl, ?_⟩) hHeld ?_ ?_
        rotate_left
        · intro w' s0
          go_simp
          with_reducible rfl
        rotate_left
        · simp only [Act.put, List.setIfInBounds_toArray, List.set_cons_zero, List.set_cons_succ, i64_w, i32_w]
          rfl
        refine one_ (i := 5) (N := some 104) #[true, true, true, true, true, true, false, false, true, true, true, false] rfl rfl (by kernel_rfl) (by decide) (fun K hK => ?_)
        refine goes_ Tryz.func32 (by kernel_rfl) rfl #[.slice A5 L.length c5] (by rfl) rfl rfl (by simp only [List.map_toArray, List.map_cons, List.map_nil]; rfl) ?_
        with_reducible refine (HBO.out).mono ?_
        rintro e w5 ⟨v5, rfl, hr5, hb5⟩
        refine ⟨_, rfl, ?_⟩
        obtain ⟨A6, c6, rfl, _, hR6⟩ := reads_own2 hr5
        have HR6 := Aside0.mk hR6
        have HB5 := Aside0.mk (bel_step HBD.out hb5)
        have HX5 := Aside0.mk (Kd.R_below HXV.out hb5)
        clear hr5 hb5 hR6
        refine hK.out _ _ ((HCB.out _ HB5.out)) (fun hHeld => ?_)
        clear hK K
        refine norm_ (a' := ?_) ?_ ?_
        rotate_left
        · show Act.put _ (some 104) _ = _
          simp only [Act.put, List.setIfInBounds_toArray, List.set_cons_zero, List.set_cons_succ, i64_w, i32_w]
          rfl
        refine one_ (i := 6) (N := some 105) #[true, true, true, true, true, true, true, false, true, true, true, false] rfl rfl (by kernel_rfl) (by decide) (fun K hK => ?_)
        refine goes_ Tryz.func34 (by kernel_rfl) rfl #[.int .i64 j, .int .i64 Q, .slice A6 bd.length c6] (by rfl) rfl rfl (by simp only [List.map_toArray, List.map_cons, List.map_nil]; rfl) ?_
        with_reducible refine (HHD.out w5 A6 c6 HR6.out).mono ?_
        rintro e w6 ⟨v6, rfl, hr6, hb6⟩
        refine ⟨_, rfl, ?_⟩
        have HR7 := Aside0.mk hr6
        have HB6 := Aside0.mk (bel_step HB5.out hb6)
        have HX6 := Aside0.mk (Kd.R_below HX5.out hb6)
        clear hr6 hb6
        refine hK.out _ _ ((HCB.out _ HB6.out)) (fun hHeld => ?_)
        clear hK K
        refine norm_ (a' := ?_) ?_ ?_
        rotate_left
        · show Act.put _ (some 105) _ = _
          simp only [Act.put, List.setIfInBounds_toArray, List.set_cons_zero, List.set_cons_succ, i64_w, i32_w]
          rfl
        refine one_ (i := 7) (N := some 106) #[true, true, true, true, true, true, true, true, true, true, true, false] rfl rfl (by kernel_rfl) (by decide) (fun K hK => ?_)
        have hcv := conv_own HR7.out
        refine value_ (w1 := ?_) (v := ?_) (by rfl) rfl ?_ ?_
        rotate_left 2
        · go_simp
          constructor
          · rfl
          · rfl
        clear hcv
        refine hK.out _ _ ((HCB.out _ HB6.out)) (fun hHeld => ?_)
        clear hK K
        refine norm_ (a' := ?_) ?_ ?_
        rotate_left
        · show Act.put _ (some 106) _ = _
          simp only [Act.put, List.setIfInBounds_toArray, List.set_cons_zero, List.set_cons_succ, i64_w, i32_w]
          rfl
        refine pure_ (i := 11) (N := some 110) (v := ?_) (a' := ?_) #[true, true, true, true, true, true, true, true, true, true, true, true] rfl rfl (by kernel_rfl) (fun _ _ _ h => h) (Or.inl ⟨by rfl, ?_⟩) ?_ ?_
        rotate_left
        · intro w'
          go_simp
          with_reducible rfl
        rotate_left
        · simp only [Act.put, List.setIfInBounds_toArray, List.set_cons_zero, List.set_cons_succ, i64_w, i32_w]
          rfl
        refine done_ (by kernel_rfl) ?_
        go_wp2_with fail
        go_ret2
        rw [HRE2.out]
        exact ⟨_, rfl, Kd.R_nil _ _ _ _ _, bel_step HB1.out HB6.out⟩
theorem record_calls (w : World) (q p : Nat) (v : Value) (s f : Nat) (d : Dev) (a k nx : Nat) (hd : HasD w p v s f d) (h : HasL w q p a k nx) (h1 : 1 ≤ k) (hak : a + k ≤ d.B.length / 8) : Calls Tryz.prog 26 #[.pointer (some ⟨q, 0, none⟩)] w (RecE w (recB (d.B.length / 8) a k (cut d.B (8 * a) (8 * k)))) := by
  by_cases hb : BadH k (cut d.B (8 * a) (8 * k))
  · rw [recB, if_pos hb]
    exact record_bad w q p v s f d a k nx hd h h1 hak hb
  · exact record_go w q p v s f d a k nx hd h h1 hak hb
end Go.Proofs.YtbfogcckbhkciaaGreat.Hand
namespace Go.Proofs.YtbfogcckbhkciaaGreat.Hand
set_option linter.unusedVariables false
set_option linter.unusedSimpArgs false
open Go.RowKit Go.Maps Go.Proofs.YtbfogcckbhkciaaGreatW.PrintWords Go.Proofs.YtbfogcckbhkciaaGreatW.PrintLast
set_option linter.unusedVariables false
set_option linter.unusedSimpArgs false
theorem mid_gen (g c n a : Nat) (i j : Int) (hi : i = a) (hj : j = a + 8) (hn : a + 8 ≤ n) (hc : n ≤ c) (W : World) : (Instr.slice 22 (.slice (some ⟨g, 0, none⟩) n c) (some (.int .i64 i)) (some (.int .i64 j)) none).run Tryz.prog W = .ok (.slice (some ⟨g, a, none⟩) 8 (c - a)) W := by
  subst hi hj
  obtain ⟨q, hq, hz⟩ := info_of
  have hel : Tryz.prog.elem 22 = 5 := by simp [Program.elem, Tryz.underlying22]
  have hu : Tryz.prog.underlying 22 = some (.slice (Tryz.prog.elem 22)) := by rw [hel]; exact Tryz.underlying22
  rw [run_slice_lh W 22 _ n c hu .i64 .i64 (a : Int) ((a : Int) + 8) (by omega) (by omega) (by omega), hel]
  have h1 : ¬ c = a := by omega
  have h2 : ((a : Int) + 8).toNat = a + 8 := by omega
  simp [sizeOf, typeInfo, hq, hz, sliced, Result.andThen, h1, h2, Addr.add]
  exact fun h => h.symm
theorem reads_mid {w : World} {g n : Nat} {xs : List Int} (hr : ReadsInt w .u8 (some ⟨g, 0, none⟩) n xs) (a : Nat) (h : a + 8 ≤ n) : ReadsInt w .u8 (some ⟨g, a, none⟩) 8 (cut xs a 8) := by
  have hl := hr.1
  refine ⟨cut_length (by omega), by omega, fun _ => ⟨_, rfl, fun j hj => ?_⟩⟩
  obtain ⟨ad, e, hx⟩ := hr.2.2 (by omega)
  obtain rfl := Option.some.inj e
  have := hx (a + j) (by omega)
  rw [add_plain] at this ⊢
  rw [show (0 : Nat) + (a + j) = a + j from Nat.zero_add _] at this
  rw [this, cut, List.getD_eq_getElem?_getD, List.getD_eq_getElem?_getD, List.getElem?_take_of_lt hj, List.getElem?_drop]
theorem goesv_ {P : Program} {ops : Array Oper} {Q : Exit → Act → World → Prop} {oi : Oper} {N : Option Tmp} {a : Act} {w : World} {K : Act → World → Prop} {f : FuncId} {fn : Func} {t : Operand} {az : Array Operand} {ts : Array TypeId} {bs cs : Array Value} (hf : P.funcs[f]? = some fn) (hname : (fn.name == "runtime.NumGoroutine") = false) (hb : fn.body.isSome = true) (args : Array Value)
    (hw : Region.wanted oi (yielded ops a.tmps) = true) (hN : oi.dst = N) (hop : oi.op = .call { callee := .value t, args := az, argTypes := ts }) (hv : a.eval t = .func (.func f) bs cs) (hargs : bs ++ az.map a.eval ++ cs = args)
    (h : Calls P f args w fun e w' => ∃ v, e = .returned v ∧ K (a.put N v) w') : if Region.wanted oi (yielded ops a.tmps) = true then Oper.wp P oi a w K Q else K (a.put N undef) w := by
  refine call_ f args hw hN ?_ h
  have he := enters_ hf hname hb args w
  unfold execOp
  simp [hop, resolve, Deferred.ofValue, invoke, hv, hargs, he]
theorem take_steps {d : Dev} {ms : List StepM} {k : Nat} {m : StepM} (h : ms[k]? = some m) : d.steps (ms.take (k + 1)) = (d.steps (ms.take k)).step m := by
  rw [List.take_add_one, h]
  exact Dev.steps_snoc _ _ _
end Go.Proofs.YtbfogcckbhkciaaGreat.Hand
namespace Go.Proofs.YtbfogcckbhkciaaGreat.Hand
set_option linter.unusedVariables false
set_option linter.unusedSimpArgs false
open Go.RowKit Go.Maps Go.Proofs.YtbfogcckbhkciaaGreatW.PrintWords Go.Proofs.YtbfogcckbhkciaaGreatW.PrintLast
set_option linter.unusedVariables false
set_option linter.unusedSimpArgs false
structure OkSt (n a k : Nat) (s : SetT) : Prop where
  may : mayB n a k s.1 = true
  n0 : 0 ≤ s.2
  n1 : s.2 < 18446744073709551616
theorem may_range {n a k : Nat} {x : Int} (h : mayB n a k x = true) : 0 ≤ x ∧ x < n := by
  simp only [mayB, decide_eq_true_eq] at h
  omega
theorem OkSt.pos {n a k : Nat} {s : SetT} (h : OkSt n a k s) (hn : n ≤ 8192) : PosSt s := by
  have := may_range h.may
  exact ⟨this.1, by omega, h.n0, h.n1⟩
theorem recB_sets {n a k : Nat} {b : List Int} (hb : Bys b) (hl : b.length = 8 * k) (h1 : 1 ≤ k) : (∀ s ∈ (recB n a k b).2, OkSt n a k s) ∧ 0 ≤ (recB n a k b).1 ∧ (recB n a k b).1 < 4294967296 ∧ (recB n a k b).2.length ≤ (k - 1) / 2 ∧ ((recB n a k b).1 = 0 → (recB n a k b).2 = []) := by
  have hz : ((0 : Int), ([] : List SetT)) = recB n a k b → (∀ s ∈ (recB n a k b).2, OkSt n a k s) ∧ 0 ≤ (recB n a k b).1 ∧ (recB n a k b).1 < 4294967296 ∧ (recB n a k b).2.length ≤ (k - 1) / 2 ∧ ((recB n a k b).1 = 0 → (recB n a k b).2 = []) := by
    intro h
    rw [← h]
    exact ⟨fun s hs => absurd hs (by simp), by simp, by simp, by simp, fun _ => rfl⟩
  by_cases hB : BadH k b
  · exact hz (by rw [recB, if_pos hB])
  · by_cases hA : (setsB b (manyB b).toNat).all (fun s => okB n a k s.1) = false
    · exact hz (by rw [recB, if_neg hB, if_pos hA])
    · by_cases hH : headL (manyB b) (seqB b) (bodyL (setsB b (manyB b).toNat)) = b.take 8
      · have e : recB n a k b = (seqB b, setsB b (manyB b).toNat) := by rw [recB, if_neg hB, if_neg hA, if_pos hH]
        rw [e]
        simp only [BadH] at hB
        have hs := num_lt hb (a := 2) (m := 4) (by omega)
        rw [Bool.not_eq_false, List.all_eq_true] at hA
        refine ⟨fun s hs => ?_, hs.1, hs.2, by rw [setsB_length]; omega, fun h => ?_⟩
        · have h2 := hA s hs
          simp only [okB, Bool.and_eq_true] at h2
          obtain ⟨j, hj, rfl⟩ := List.mem_map.1 hs
          have hj := List.mem_range.1 hj
          have h3 := num_lt hb (a := 16 + 16 * j) (m := 8) (by omega)
          exact ⟨h2.2, h3.1, h3.2⟩
        · exact absurd h (by simp only; omega)
      · exact hz (by rw [recB, if_neg hB, if_neg hA, if_neg hH])
def recD (d : Dev) (a k : Nat) : Int × List SetT := recB (d.B.length / 8) a k (cut d.B (8 * a) (8 * k))
theorem recD_sets {d : Dev} (h : d.Ok) {a k : Nat} (h1 : 1 ≤ k) (hak : a + k ≤ d.B.length / 8) : (∀ s ∈ (recD d a k).2, OkSt (d.B.length / 8) a k s) ∧ 0 ≤ (recD d a k).1 ∧ (recD d a k).1 < 4294967296 ∧ (recD d a k).2.length ≤ (k - 1) / 2 ∧ ((recD d a k).1 = 0 → (recD d a k).2 = []) :=
  recB_sets (cut_bys h.bys _ _) (cut_length (by omega)) h1
theorem open4_bad (w : World) (p : Nat) (v : Value) (s f : Nat) (d : Dev) (a k : Int) (h : HasD w p v s f d) (he : inR (d.B.length / 8) a k ≠ 0) :
    Calls Tryz.prog 6 #[.pointer (some ⟨p, 0, none⟩), .int .i64 a, .int .i64 k] w fun e w' => e = .returned (.tuple #[.pointer none, .int .i64 (inR (d.B.length / 8) a k)]) ∧ Below w.heap.size w w' := by
  have HI := Aside0.mk (inside4_calls w p v s f d a k h)
  obtain ⟨x, hx⟩ : ∃ x, x = inR (d.B.length / 8) a k := ⟨_, rfl⟩
  rw [← hx] at he HI ⊢
  have z : (x == 0) = false := by simpa using he
  clear h hx he
  go_enter Tryz.func6, Tryz.ntmps6
  go_wp2_with (go_at_call 25; ((with_reducible refine HI.out.mono ?_); rintro e w1 ⟨rfl, rfl⟩))
  go_ret2
  exact ⟨rfl, Below.refl _ _⟩
def OpenE (w : World) (p : Nat) (a k : Nat) (seq : Int) (e : Ending) (w' : World) : Prop :=
  ∃ (q : Nat), e = .returned (.tuple #[.pointer (some ⟨q, 0, none⟩), .int .i64 0]) ∧ HasL w' q p a k (seq.toNat + 1) ∧ w.heap.size ≤ q ∧ Below w.heap.size w w'
theorem open4_good (w : World) (p : Nat) (v : Value) (s f : Nat) (d : Dev) (a k : Nat) (h : HasD w p v s f d) (h1 : 1 ≤ k) (hak : a + k ≤ d.B.length / 8) :
    Calls Tryz.prog 6 #[.pointer (some ⟨p, 0, none⟩), .int .i64 a, .int .i64 k] w (OpenE w p a k (recD d a k).1) := by
  have hi : inR (d.B.length / 8) a k = 0 := by rw [inR, if_neg (by omega), if_neg (by omega)]
  have HI := Aside0.mk (inside4_calls w p v s f d a k h)
  rw [hi] at HI
  have HH := Aside0.mk h
  have HS := recD_sets h.ok h1 hak
  have HRC := Aside0.mk (fun (W : World) (q nx : Nat) (hb : Below w.heap.size w W) (hl : HasL W q p a k nx) => show Calls Tryz.prog 26 #[.pointer (some ⟨q, 0, none⟩)] W (RecE W (recD d a k)) from record_calls W q p v s f d a k nx (h.move hb) hl h1 hak)
  obtain ⟨R, hR⟩ : ∃ R, R = recD d a k := ⟨_, rfl⟩
  rw [← hR] at HRC HS ⊢
  obtain ⟨sq, hsq⟩ : ∃ sq : Nat, R.1 = sq := ⟨R.1.toNat, by have := HS.2.1; omega⟩
  have HSQ := Aside0.mk hsq
  have hlt : (sq : Int) < 4294967296 := by rw [← hsq]; exact HS.2.2.1
  have e1 : IntKind.i64.wrap ((sq : Int) + 1) = ((sq + 1 : Nat) : Int) := by rw [IntWalk.i64_in _ (by omega)]; omega
  rw [hsq]
  have HQ0 := Aside0.mk (show HasL (w.alloc (.cells #[.pointer (some ⟨p, 0, none⟩), .int .i64 a, .int .i64 k, .int .i64 0] 74)) w.heap.size p a k 0 from ⟨heap_alloc_new w _⟩)
  clear h hR HS hsq hi
  go_enter Tryz.func6, Tryz.ntmps6
  go_wp2_with (first | (go_at_call 25; ((with_reducible refine HI.out.mono ?_); rintro e w1 ⟨rfl, rfl⟩)) | (go_at_call 26; ((with_reducible refine (HRC.out _ w.heap.size 0 (below_alloc (Below.refl _ _) _) HQ0.out).mono ?_); rintro e w2 ⟨v2, rfl, hr2, hb2⟩; rw [HSQ.out]; have HB2 := Aside0.mk (bel_step (below_alloc (Below.refl _ _) _) hb2); have HQ2 := Aside0.mk ((hb2.block w.heap.size (by simp)).trans (heap_alloc_new w _)); have hfz := blk_free HQ2.out 3; have hc3 := blk_cell HQ2.out (i := 3) rfl; clear hr2 hb2)))
  go_ret2
  refine ⟨w.heap.size, rfl, ⟨?_⟩, Nat.le_refl _, HB2.out.setCell (p := ⟨w.heap.size, 3, none⟩) (Nat.le_refl _) _⟩
  have := blk_set HQ2.out 3 (.int .i64 ((sq + 1 : Nat) : Int))
  exact this
theorem rowSt_cells {W : World} {base : Nat} {v : Value} {l : List SetT} (h : RowSt W base v l) : ∃ A c, v = .slice A l.length c ∧ ∀ j x, l[j]? = some x → ∃ g, A = some ⟨g, 0, none⟩ ∧ base ≤ g ∧ W.cell? ⟨g, j * 2, none⟩ = some (.int .i64 x.1) ∧ W.cell? ⟨g, j * 2 + 1, none⟩ = some (.int .u64 x.2) := by
  rcases flat_slice h with ⟨rfl, rfl⟩ | ⟨g, cap, rfl, hg, _⟩
  · exact ⟨none, 0, rfl, fun j x hx => absurd hx (by simp)⟩
  · exact ⟨some ⟨g, 0, none⟩, cap, rfl, fun j x hx => ⟨g, rfl, hg, (flat_cell h hx (by decide : 0 < 2)).1, (flat_cell h hx (by decide : 1 < 2)).1⟩⟩
def setD (d : Dev) (s : SetT) : Dev := (d.step (.wr (8 * s.1.toNat) (leB s.2 8))).step (.fl (8 * s.1.toNat) (8 * 1))
def setsD (d : Dev) (l : List SetT) : Dev := l.foldl setD d
def recoverD (d : Dev) (a k : Nat) : Dev := if 0 < (recD d a k).1 then (setsD d (recD d a k).2).step .fe else d
theorem setsD_take {d : Dev} {l : List SetT} {j : Nat} {x : SetT} (h : l[j]? = some x) : setsD d (l.take (j + 1)) = setD (setsD d (l.take j)) x := by
  rw [List.take_add_one, h, Option.toList_some, setsD, List.foldl_append]
  rfl
theorem not_own_ge {w : World} {p : Nat} {v : Value} {s f : Nat} {d : Dev} (h : HasD w p v s f d) {b : Nat} (hb : w.heap.size ≤ b) : ¬ OwnD v s f b := fun ho => absurd (h.own_lt ho) (Nat.not_lt.2 hb)
def RecoverE (w : World) (p : Nat) (v : Value) (s f : Nat) (d : Dev) (a k : Nat) (e : Ending) (w' : World) : Prop :=
  e = .returned (.tuple #[.int .i64 (recD d a k).1, .int .i64 0]) ∧ HasD w' p v s f (recoverD d a k) ∧ Fr (OwnD v s f) w w'
set_option maxRecDepth 100000 in
set_option maxHeartbeats 4000000 in
theorem recover4_good (w : World) (p : Nat) (v : Value) (s f : Nat) (d : Dev) (a k : Nat) (h : HasD w p v s f d) (h1 : 1 ≤ k) (hak : a + k ≤ d.B.length / 8) :
    Calls Tryz.prog 23 #[.pointer (some ⟨p, 0, none⟩), .int .i64 a, .int .i64 k] w (RecoverE w p v s f d a k) := by
  have HO := Aside0.mk (open4_good w p v s f d a k h h1 hak)
  have HH := Aside0.mk h
  have HS := recD_sets h.ok h1 hak
  have hm := h.ok.max
  have HRC := Aside0.mk (fun (W : World) (q nx : Nat) (hb : Below w.heap.size w W) (hl : HasL W q p a k nx) => show Calls Tryz.prog 26 #[.pointer (some ⟨q, 0, none⟩)] W (RecE W (recD d a k)) from record_calls W q p v s f d a k nx (h.move hb) hl h1 hak)
  have HRV := Aside0.mk (show recoverD d a k = if 0 < (recD d a k).1 then (setsD d (recD d a k).2).step .fe else d from rfl)
  have HPO := Aside0.mk (fun (s : SetT) (hs : s ∈ (recD d a k).2) => And.intro (may_range (HS.1 s hs).may) ((HS.1 s hs).pos (by omega)))
  have HLR := HS.2.2.2.1
  have HZ := HS.2.2.2.2
  have hQ := HS.2.1
  show Calls Tryz.prog 23 #[.pointer (some ⟨p, 0, none⟩), .int .i64 a, .int .i64 k] w (fun e w' => e = .returned (.tuple #[.int .i64 (recD d a k).1, .int .i64 0]) ∧ HasD w' p v s f (recoverD d a k) ∧ Fr (OwnD v s f) w w')
  obtain ⟨n, hn⟩ : ∃ n, n = d.B.length / 8 := ⟨_, rfl⟩
  rw [← hn] at HPO
  have hn8 : n ≤ 8192 := by omega
  have hkn : k ≤ 8192 := by omega
  obtain ⟨RV, hRV⟩ : ∃ RV, RV = recoverD d a k := ⟨_, rfl⟩
  rw [← hRV] at HRV ⊢
  obtain ⟨⟨Q, L⟩, hR⟩ : ∃ R, R = recD d a k := ⟨_, rfl⟩
  rw [← hR] at HRC HRV HPO HLR HZ hQ HO ⊢
  simp only at HRV HPO HLR HZ hQ
  have hLl : L.length ≤ 8192 := by omega
  have HZE := Aside0.mk HZ
  clear h hR HS hRV hn HLR HZ
  go_enter Tryz.func23, Tryz.ntmps23
  go_wp2_with (first | (go_at_call 6; ((with_reducible refine HO.out.mono ?_); rintro e w1 ⟨q, rfl, hl1, hq1, hb1⟩; have HL1 := Aside0.mk hl1; have HQ1 := Aside0.mk hq1; have HB1 := Aside0.mk hb1; clear hl1 hq1 hb1)) | (go_at_call 26; ((with_reducible refine (HRC.out _ q _ HB1.out HL1.out).mono ?_); rintro e w3 ⟨v3, rfl, hr3, hb3⟩; obtain ⟨A3, c3, rfl, hc3⟩ := rowSt_cells hr3; have HC3 := Aside0.mk hc3; have HB3 := Aside0.mk (bel_step HB1.out hb3); have HL3 := Aside0.mk (HL1.out.below hb3); have HZ1 := Aside0.mk hb3.size; clear hr3 hb3 hc3)))
  have HTO := Aside0.mk (show ∀ b, w.heap.size ≤ b → ¬ OwnD v s f b from fun b hb => not_own_ge HH.out hb)
  go_loopw [31] (fun iv wr => ∃ j : Nat, j ≤ L.length ∧ iv = .int .i64 (j : Int) ∧ Aside0 (HasD wr p v s f (setsD d (L.take j))) ∧ Aside0 (Fr (OwnD v s f) w3 wr)) (fun iv _ => (L.length - intOf iv).toNat)
  case atStart => exact ⟨0, Nat.zero_le _, rfl, ⟨HH.out.move HB3.out⟩, ⟨Fr.refl _ _⟩⟩
  case round =>
    obtain ⟨j, hj, rfl, HD, HF⟩ := hrel
    by_cases hlt : j < L.length
    · obtain ⟨x, hx⟩ : ∃ x, L[j]? = some x := ⟨_, List.getElem?_eq_getElem hlt⟩
      obtain ⟨g, hA, hg, hx0, hx1⟩ := HC3.out j x hx
      obtain ⟨hr0, hps⟩ := HPO.out x (List.mem_of_getElem? hx)
      have HTK := Aside0.mk (setsD_take (d := d) hx)
      obtain ⟨x, y⟩ := x
      obtain ⟨i, hi⟩ : ∃ i : Nat, x = i := ⟨x.toNat, by have := hr0.1; simp only at this; omega⟩
      subst hi
      have HPY := Aside0.mk hps
      have hin : i < n := by have := hr0.2; simp only at this; omega
      subst hA
      have hgo := HTO.out g (Nat.le_trans HB1.out.size hg)
      have b0 : wr.cell? ⟨g, j * 2, none⟩ = some (.int .i64 i) := HF.out.cell hx0 hgo
      have b1 : wr.cell? ⟨g, j * 2 + 1, none⟩ = some (.int .u64 y) := HF.out.cell hx1 hgo
      have HSD := Aside0.mk (show setD (setsD d (L.take j)) ((i : Int), y) = ((setsD d (L.take j)).step (.wr (8 * i) (leB y 8))).step (.fl (8 * i) (8 * 1)) from rfl)
      obtain ⟨D, hD⟩ : ∃ D, D = setsD d (L.take j) := ⟨_, rfl⟩
      rw [← hD] at HD HTK HSD
      obtain ⟨wa, hwa⟩ : ∃ wa, wa = wr.alloc (.cells #[.int .i64 (i : Int), .int .u64 y] 66) := ⟨_, rfl⟩
      have HBA := Aside0.mk (show Below wr.heap.size wr wa.drew by rw [hwa]; exact (below_alloc (Below.refl _ _) _).drew)
      have HWA := Aside0.mk hwa
      have d0 : wa.cell? ⟨wr.heap.size, 0, none⟩ = some (.int .i64 i) := by rw [hwa]; exact new_cell wr _ _ 0 rfl
      have d1 : wa.cell? ⟨wr.heap.size, 1, none⟩ = some (.int .u64 y) := by rw [hwa]; exact new_cell wr _ _ 1 rfl
      have HDA := Aside0.mk (HD.out.move HBA.out)
      have HLA := Aside0.mk ((HL3.out.fr HF.out (HTO.out q HQ1.out)).below HBA.out)
      have HFA := Aside0.mk (HF.out.then_below HBA.out)
      have HRS := Aside0.mk (show ¬ OwnD v s f wr.heap.size from not_own_ge HD.out (Nat.le_refl _))
      clear hx hx0 hx1 hr0 hps hgo hD hwa
      go_wp2_with fail
      rw [← HWA.out]
      refine start_ (n := 8) (S := fun w' => w'.cell? ⟨wr.heap.size, 0, none⟩ = some (.int .i64 i) ∧ w'.cell? ⟨wr.heap.size, 1, none⟩ = some (.int .u64 y)) (ds := []) #[false, false, false, false, false, false, false, false] (by kernel_rfl) rfl rfl ⟨d0, d1⟩ (fun hHeld => ?_)
      refine pure_ (i := 0) (N := some 35) (v := ?_) (a' := ?_) #[true, false, false, false, false, false, false, false] rfl rfl (by kernel_rfl) (fun _ _ _ h => h) (Or.inl ⟨by rfl, ?_⟩) ?_ ?_
      rotate_left
      · intro w'
        go_simp
        with_reducible rfl
      rotate_left
      · simp only [Act.put, List.setIfInBounds_toArray, List.set_cons_zero, List.set_cons_succ, i64_w, i32_w]
        rfl
      refine pure_ (i := 1) (N := some 36) (v := ?_) (a' := ?_) #[true, true, false, false, false, false, false, false] rfl rfl (by kernel_rfl) (fun _ _ _ h => h) (Or.inl ⟨by rfl, ?_⟩) ?_ ?_
      rotate_left
      · intro w'
        go_simp
        with_reducible rfl
      rotate_left
      · simp only [Act.put, List.setIfInBounds_toArray, List.set_cons_zero, List.set_cons_succ, i64_w, i32_w]
        rfl
      refine pure_ (i := 3) (N := some 38) (v := ?_) (a' := ?_) #[true, true, false, true, false, false, false, false] rfl rfl (by kernel_rfl) (fun _ _ _ h => h) (Or.inl ⟨by rfl, ?_⟩) ?_ ?_
      rotate_left
      · intro w'
        go_simp
        with_reducible rfl
      rotate_left
      · simp only [Act.put, List.setIfInBounds_toArray, List.set_cons_zero, List.set_cons_succ, i64_w, i32_w]
        rfl
      refine take_ (i := 2) (N := some 37) (v := ?_) (a' := ?_) #[true, true, true, true, false, false, false, false] rfl rfl (by kernel_rfl) (fun _ _ _ h => h) (Or.inl ⟨by rfl, ?_⟩) hHeld ?_ ?_
      rotate_left
      · rintro w' ⟨s0, s1⟩
        go_simp
        with_reducible rfl
      rotate_left
      · simp only [Act.put, List.setIfInBounds_toArray, List.set_cons_zero, List.set_cons_succ, i64_w, i32_w]
        rfl
      refine take_ (i := 4) (N := some 39) (v := ?_) (a' := ?_) #[true, true, true, true, true, false, false, false] rfl rfl (by kernel_rfl) (fun _ _ _ h => h) (Or.inl ⟨by rfl, ?_⟩) hHeld ?_ ?_
      rotate_left
      · rintro w' ⟨s0, s1⟩
        go_simp
        with_reducible rfl
      rotate_left
      · simp only [Act.put, List.setIfInBounds_toArray, List.set_cons_zero, List.set_cons_succ, i64_w, i32_w]
        rfl
      refine one_ (i := 5) (N := some 40) #[true, true, true, true, true, true, false, false] rfl rfl (by kernel_rfl) (by decide) (fun K hK => ?_)
      refine goes_ Tryz.func51 (by kernel_rfl) rfl #[.int .u64 y] (by rfl) rfl rfl (by simp only [List.map_toArray, List.map_cons, List.map_nil]; rfl) ?_
      with_reducible refine (eight_calls wa.drew y HPY.out.n0 HPY.out.n1).mono ?_
      rintro e w5 ⟨g5, c5, rfl, hc5, hr5, hg5, hb5⟩
      refine ⟨_, rfl, ?_⟩
      have HR5 := Aside0.mk hr5
      have HB5 := Aside0.mk hb5
      have i0 := bel_cell hb5 hHeld.1
      have i1 := bel_cell hb5 hHeld.2
      clear hc5 hr5 hg5 hb5
      refine hK.out _ _ ⟨i0, i1⟩ (fun hHeld => ?_)
      clear hK K
      refine norm_ (a' := ?_) ?_ ?_
      rotate_left
      · show Act.put _ (some 40) _ = _
        simp only [Act.put, List.setIfInBounds_toArray, List.set_cons_zero, List.set_cons_succ, i64_w, i32_w]
        rfl
      refine one_ (i := 6) (N := some 41) #[true, true, true, true, true, true, true, false] rfl rfl (by kernel_rfl) (by decide) (fun K hK => ?_)
      refine goes_ Tryz.func50 (by kernel_rfl) rfl #[.pointer (some ⟨q, 0, none⟩), .int .i64 (i : Int), .slice (some ⟨g5, 0, none⟩) 8 c5] (by rfl) rfl rfl (by simp only [List.map_toArray, List.map_cons, List.map_nil]; rfl) ?_
      with_reducible refine (mkwrW_calls w5 q i (some ⟨g5, 0, none⟩) 8 c5).mono ?_
      rintro e w6 ⟨bl, ba, bx, rfl, hm6, hb6⟩
      refine ⟨_, rfl, ?_⟩
      have HM6 := Aside0.mk hm6
      have HR6 := Aside0.mk (HR5.out.below hb6)
      have HB6 := Aside0.mk (bel_step HB5.out hb6)
      have j0 := bel_cell hb6 i0
      have j1 := bel_cell hb6 i1
      have HS6 := Aside0.mk (stepW_wr w6 q p v s f D (fun _ => True) bl ba bx (8 * i) (leB y 8) (HDA.out.move HB6.out) (HLA.out.below HB6.out).cells.1 ⟨trivial, trivial, trivial, HM6.out.2.2.2.1, ⟨i, rfl, by omega, HM6.out.2.2.2.2.1⟩, leB_length y 8, g5, 0, c5, trivial, HM6.out.2.2.2.2.2, HR6.out⟩ (leB_bysq y 8))
      clear hm6 hb6
      refine hK.out _ _ ⟨j0, j1⟩ (fun hHeld => ?_)
      clear hK K
      refine norm_ (a' := ?_) ?_ ?_
      rotate_left
      · show Act.put _ (some 41) _ = _
        simp only [Act.put, List.setIfInBounds_toArray, List.set_cons_zero, List.set_cons_succ, i64_w, i32_w]
        rfl
      refine one_ (i := 7) (N := some 42) #[true, true, true, true, true, true, true, true] rfl rfl (by kernel_rfl) (by decide) (fun K hK => ?_)
      refine goesv_ (bs := #[]) (cs := #[.pointer (some ⟨bl, 0, none⟩), .pointer (some ⟨ba, 0, none⟩), .pointer (some ⟨bx, 0, none⟩)]) Tryz.func71 (by kernel_rfl) rfl #[.pointer (some ⟨bl, 0, none⟩), .pointer (some ⟨ba, 0, none⟩), .pointer (some ⟨bx, 0, none⟩)] (by rfl) rfl rfl rfl (by simp only [List.map_toArray, List.map_nil]; rfl) ?_
      with_reducible refine (HS6.out).mono ?_
      rintro e w7 ⟨rfl, hd7, hf7⟩
      refine ⟨_, rfl, ?_⟩
      have HD7 := Aside0.mk hd7
      have HF67 := Aside0.mk hf7
      have HF7 := Aside0.mk ((HFA.out.then_below HB6.out).trans' hf7)
      have k0 := hf7.cell j0 HRS.out
      have k1 := hf7.cell j1 HRS.out
      clear hd7 hf7
      refine hK.out _ _ ⟨k0, k1⟩ (fun hHeld => ?_)
      clear hK K
      refine norm_ (a' := ?_) ?_ ?_
      rotate_left
      · show Act.put _ (some 42) _ = _
        simp only [Act.put, List.setIfInBounds_toArray, List.set_cons_zero, List.set_cons_succ, i64_w, i32_w]
        rfl
      refine done_ (by kernel_rfl) ?_
      obtain ⟨D1, hD1⟩ : ∃ D1, D1 = D.step (.wr (8 * i) (leB y 8)) := ⟨_, rfl⟩
      rw [← hD1] at HD7 HSD
      have HL7 := Aside0.mk ((HLA.out.below HB6.out).fr HF67.out (HTO.out q HQ1.out))
      clear hD1
      go_wp2_with (first | (go_at_call 52; ((with_reducible refine (mkflW_calls w7 q i 1).mono ?_); rintro e w8 ⟨bl2, ba2, bn2, rfl, hm8, hb8⟩; have HB8 := Aside0.mk hb8; have HD8 := Aside0.mk (HD7.out.move hb8); have HS8 := Aside0.mk (stepW_fl w8 q p v s f D1 (fun _ => True) bl2 ba2 bn2 (8 * i) (8 * 1) HD8.out (HL7.out.below hb8).cells.1 ⟨trivial, trivial, trivial, hm8.2.2.2.1, ⟨i, rfl, by omega, hm8.2.2.2.2.1⟩, 1, rfl, by decide, hm8.2.2.2.2.2⟩); clear hm8 hb8)) | (go_at_call 72; ((with_reducible refine (HS8.out).mono ?_); rintro e w9 ⟨rfl, hd9, hf9⟩; have HD9 := Aside0.mk hd9; have HF9 := Aside0.mk ((HF7.out.then_below HB8.out).trans' hf9); clear hd9 hf9)))
      refine ⟨⟨j + 1, by omega, by go_num, ⟨by rw [HTK.out, HSD.out]; exact HD9.out⟩, HF9⟩, by simp [intOf]; omega⟩
    · obtain rfl : j = L.length := by omega
      have HFI := Aside0.mk (show HasD wr p v s f (setsD d L) from by have := HD.out; rwa [List.take_of_length_le (Nat.le_refl _)] at this)
      by_cases hq0 : 0 < Q
      · have HRE := Aside0.mk (HRV.out.trans (if_pos hq0))
        go_wp2_with (go_at_call 47; ((with_reducible refine (stepW_fe _ p v s f _ HFI.out).mono ?_); rintro e w9 ⟨rfl, hd9, hf9⟩; have HD9 := Aside0.mk hd9; have HF9 := Aside0.mk (HF.out.trans' hf9); clear hd9 hf9))
        go_ret2
        rw [HRE.out]
        exact ⟨rfl, HD9.out, (Fr.of_below HB3.out _).trans' HF9.out⟩
      · have HRE := Aside0.mk (HRV.out.trans (if_neg hq0))
        have HLN := Aside0.mk (HZE.out (by omega))
        go_wp2_with fail
        go_ret2
        rw [HRE.out]
        have := HFI.out
        rw [HLN.out] at this
        exact ⟨rfl, this, (Fr.of_below HB3.out _).trans' HF.out⟩
end Go.Proofs.YtbfogcckbhkciaaGreat.Hand
namespace Go.Proofs.YtbfogcckbhkciaaGreat.Hand
set_option linter.unusedVariables false
set_option linter.unusedSimpArgs false
open Go.RowKit
set_option linter.unusedVariables false
def SeqZ {α : Type} (n : Nat) (P : Program) (gf : Nat) (lb : Array Value) (enc : α → Value) (Z : α → World → Prop) (Kp : World → World → Prop) (S : List α → Prop) (N : Nat) (w0 : World) : Prop :=
  ∀ (l : Nat) (J : List α → World → Prop) (W : World), Below w0.heap.size w0 W → (∀ s A B, J s A → Below A.heap.size A B → J s B) →
    (∀ pre x W1, J pre W1 → Z x W1 → pre.length < N → YieldAt Fence.wide (n - 1) P l #[enc x] W1 fun e W' => e = .returned (.bool true) ∧ J (pre ++ [x]) W' ∧ Kp W1 W') →
    J [] W → CallsIn Fence.wide n P gf (#[.func (.yield l) #[] #[]] ++ lb) W fun e W' => (∃ v, e = .returned v) ∧ ∃ xs, S xs ∧ J xs W'
section
variable {P : Program} {n : Nat}
def roundEnd {α : Type} (B : Nat) (Kp : World → World → Prop) (I : List α → World → Prop) (xs : List α) (W : World) : Exit → Act → World → Prop
  | .normal, _, W' => KeepsFrom B W W' ∧ Kp W W' ∧ I xs W'
  | _, _, _ => False
theorem below_grown {A B : World} (h : Below A.heap.size A B) : A.grownBy B none := ⟨h.os, h.tape, h.output, h.size, fun b hb _ => h.block b hb⟩
theorem range_told {α : Type} {g : Operand} {p0 : Tmp} {assign body : Code} {Q : Exit → Act → World → Prop} {a : Act} {w w0 : World} (h1 : 1 ≤ n) {gf : Nat} {lb : Array Value} (hg : a.eval g = .func (.func gf) #[] lb)
    (eg : ∀ args w, (callFunc gf args).run P w = .ok (.enter gf args) w) {enc : α → Value} {Z : α → World → Prop} {Kp : World → World → Prop} {S : List α → Prop} {N : Nat} (hseq : SeqZ (n - 1) P gf lb enc Z Kp S N w0) (hb0 : Below w0.heap.size w0 w)
    (I : List α → World → Prop) (hI : OwnFrom w.heap.size I) (hKt : ∀ {A B C : World}, Kp A B → Kp B C → Kp A C)
    (hKb : ∀ (W : World) (l : Nat) (o o' : Obj), w.heap.size ≤ l → W.heap[l]? = some o → o.isCells = false → Kp W (W.putObj l o'))
    (hZ : ∀ (x : α) (W : World) (l : Nat) (o o' : Obj), w.heap.size ≤ l → W.heap[l]? = some o → o.isCells = false → Z x W → Z x (W.putObj l o'))
    (h0 : I [] w) (a₁ : α → Act)
    (hassign : ∀ (l : Nat) (x : α) (W : World) (K : Act → World → Prop), K (a₁ x) W → assign.wpIn (Fence.wide.inRound l) (n - 1 - 1) P (Exit.then K (fun _ _ _ => False)) { tmps := a.tmps.setIfInBounds p0 (enc x), defers := [] } W)
    (hbody : ∀ (l : Nat) (pre : List α) (x : α) (W : World), I pre W → Z x W → pre.length < N → body.wpIn (Fence.wide.inRound l) (n - 1 - 1) P (roundEnd w.heap.size Kp I (pre ++ [x]) W) (a₁ x) W)
    (hdone : ∀ (D : Nat) (xs : List α) (W : World), w.heap.size ≤ D → S xs → I xs W → W.heap[D]? = some (.deferred (some [])) → Q .normal { a with defers := { target := .collected D, args := #[] } :: a.defers } W) :
    (Code.rangeFunc g #[p0] assign body).wpIn Fence.wide n P Q a w := by
  refine wpIn_rangeFunc fun fn hfn => ?_
  have hd : ∀ st pe, Loop.mk st pe fn a.tmps #[p0] assign body w.heap.size = Loop.mk st pe fn a.tmps #[p0] assign body w.heap.size := fun _ _ => rfl
  have hr0 := run_enterLoop_outer (P := P) (w := w) fn a.tmps #[p0] assign body
  obtain ⟨W1, hW1⟩ : ∃ W1, W1 = (w.alloc (.deferred (some []))).alloc (.loop ⟨.ready, none, fn, a.tmps, #[p0], assign, body, w.heap.size⟩) := ⟨_, rfl⟩
  rw [← hW1] at hr0
  have hbW : Below w.heap.size w W1 := by rw [hW1]; exact ((Below.refl _ w).alloc (Nat.le_refl _) _).alloc (by simp) _
  have hL : W1.heap[w.heap.size + 1]? = some (.loop ⟨.ready, none, fn, a.tmps, #[p0], assign, body, w.heap.size⟩) := by
    rw [hW1]
    have := World.alloc_heap_new (w.alloc (.deferred (some []))) (.loop ⟨.ready, none, fn, a.tmps, #[p0], assign, body, w.heap.size⟩)
    rwa [World.size_alloc] at this
  have hD : W1.heap[w.heap.size]? = some (.deferred (some [])) := by rw [hW1]; exact (Below.heap_alloc _ _ _ (by simp)).trans (World.alloc_heap_new w _)
  have hI1 : I [] W1 := by rw [hW1]; exact hI.alloc _ (hI.alloc _ h0)
  refine ⟨_, _, W1, { target := .fn (.func gf) lb, args := #[.func (.yield (w.heap.size + 1)) #[] #[]] }, W1, gf, #[.func (.yield (w.heap.size + 1)) #[] #[]] ++ lb, W1, hr0, ?_, fun _ _ => trivial, ?_, fun h => absurd h (by simp [Fence.wide]), ?_⟩
  · simp only [resolve, hg]
    simp [go_sem]
  · simp [invoke, go_sem, eg]
  refine (hseq (w.heap.size + 1) (fun pre W => I pre W ∧ W.heap[w.heap.size + 1]? = some (.loop ⟨.ready, none, fn, a.tmps, #[p0], assign, body, w.heap.size⟩) ∧ W.heap[w.heap.size]? = some (.deferred (some []))) W1 (hb0.trans (hbW.mono hb0.size)) ?_ ?_ ⟨hI1, hL, hD⟩).mono ?_
  · rintro s A B ⟨j1, j2, j3⟩ hb
    exact ⟨hI s A B none j1 (below_grown hb) (fun r e => by cases e), (hb.block _ (Array.getElem?_eq_some_iff.1 j2).1).trans j2, (hb.block _ (Array.getElem?_eq_some_iff.1 j3).1).trans j3⟩
  · rintro pre x W ⟨hi, hl, hk⟩ hz hlen
    have hlt := (Array.getElem?_eq_some_iff.1 hl).1
    have hy := run_yield (P := P) (args := #[enc x]) hl rfl
    have hbg := run_beginRound (P := P) hl rfl
    have hy2 : (Instr.yield (w.heap.size + 1) #[enc x]).run P W = .ok (.round (w.heap.size + 1) fn (a.tmps.setIfInBounds p0 (enc x)) assign body) W := by simpa using hy
    refine ⟨fn, _, assign, body, hy2, roundIn_of_wpIn trivial ?_⟩
    refine hassign _ x W _ ⟨_, hbg, ?_⟩
    obtain ⟨V, hV⟩ : ∃ V, V = W.putObj (w.heap.size + 1) (.loop ⟨.busy, none, fn, a.tmps, #[p0], assign, body, w.heap.size⟩) := ⟨_, rfl⟩
    rw [← hV]
    have v1 : V.heap[w.heap.size + 1]? = some (.loop ⟨.busy, none, fn, a.tmps, #[p0], assign, body, w.heap.size⟩) := by rw [hV]; exact World.putObj_heap_same hlt
    have v2 : V.heap[w.heap.size]? = some (.deferred (some [])) := by rw [hV]; exact (World.putObj_heap_other (by omega)).trans hk
    have v3 : Kp W V := by rw [hV]; exact hKb _ _ _ _ (by omega) hl rfl
    have v4 : Z x V := by rw [hV]; exact hZ _ _ _ _ _ (by omega) hl rfl hz
    have v5 : I pre V := by rw [hV]; exact hI.putObj _ hi (by omega) hl rfl
    refine wpIn_mono (hbody _ pre x V v5 v4 hlen) ?_
    rintro e a3 W3 hp
    cases e with
    | normal =>
      obtain ⟨q1, q2, q3⟩ := hp
      have u1 := q1.same _ _ (by omega) v1 rfl
      have u2 := q1.same _ _ (Nat.le_refl _) v2 rfl
      have hen := run_endRound (P := P) none u1
      exact ⟨_, _, hen, rfl, ⟨hI.putObj _ q3 (by omega) u1 rfl, World.putObj_heap_same (Array.getElem?_eq_some_iff.1 u1).1, (World.putObj_heap_other (by omega)).trans u2⟩, hKt (hKt v3 q2) (hKb _ _ _ _ (by omega) u1 rfl)⟩
    | ret => exact hp.elim
    | exit id => exact hp.elim
    | goto t => exact hp.elim
    | panic ch => exact hp.elim
    | outgrown => exact hp.elim
  · rintro e W2 ⟨⟨v, rfl⟩, xs, hS, hi, hl, hk⟩
    exact ⟨none, _, run_endLoop (P := P) hl (by simp), hdone _ xs _ (Nat.le_refl _) hS (hI.putObj _ hi (by omega) hl rfl) ((World.putObj_heap_other (by omega)).trans hk)⟩
end
end Go.Proofs.YtbfogcckbhkciaaGreat.Hand
namespace Go.Proofs.YtbfogcckbhkciaaGreat.Hand
set_option linter.unusedVariables false
set_option linter.unusedSimpArgs false
open Go.RowKit Go.Maps Go.Proofs.YtbfogcckbhkciaaGreatW.PrintWords Go.Proofs.YtbfogcckbhkciaaGreatW.PrintLast
set_option linter.unusedVariables false
set_option linter.unusedSimpArgs false
structure CapW (W : World) (bl bb bh bs q p a gb cb gh ch : Nat) (As : Option Addr) (cs : Nat) (b h : List Int) (sets : List SetT) : Prop where
  xl : W.cell? ⟨bl, 0, none⟩ = some (.pointer (some ⟨q, 0, none⟩))
  xb : W.cell? ⟨bb, 0, none⟩ = some (.slice (some ⟨gb, 0, none⟩) b.length cb)
  xh : W.cell? ⟨bh, 0, none⟩ = some (.slice (some ⟨gh, 0, none⟩) 8 ch)
  xs : W.cell? ⟨bs, 0, none⟩ = some (.slice As sets.length cs)
  x0 : W.cell? ⟨q, 0, none⟩ = some (.pointer (some ⟨p, 0, none⟩))
  x1 : W.cell? ⟨q, 1, none⟩ = some (.int .i64 a)
  xc : b.length ≤ cb
  xrb : ReadsInt W .u8 (some ⟨gb, 0, none⟩) b.length b
  xrh : ReadsInt W .u8 (some ⟨gh, 0, none⟩) 8 h
  xrs : SetK.C W As sets.length sets
theorem CapW.below {W W' : World} {bl bb bh bs q p a gb cb gh ch : Nat} {As : Option Addr} {cs : Nat} {b h : List Int} {sets : List SetT} (x : CapW W bl bb bh bs q p a gb cb gh ch As cs b h sets) (hb : Below W.heap.size W W') : CapW W' bl bb bh bs q p a gb cb gh ch As cs b h sets :=
  ⟨bel_cell hb x.xl, bel_cell hb x.xb, bel_cell hb x.xh, bel_cell hb x.xs, bel_cell hb x.x0, bel_cell hb x.x1, x.xc, x.xrb.below hb, x.xrh.below hb, Kd.C_below x.xrs hb⟩
def zeros8 : List Int := List.replicate 8 0
def stepA (a : Nat) : List StepM := [.wr (8 * a) zeros8, .fl (8 * a) (8 * 1), .fe]
def stepB (a : Nat) (b : List Int) (j : Nat) : List StepM := (List.range j).map fun i => .wr (8 * (a + 1 + i)) (cut b (8 * i) 8)
def stepC (a m : Nat) (h : List Int) : List StepM := [.fl (8 * (a + 1)) (8 * m), .fe, .wr (8 * a) h, .fl (8 * a) (8 * 1), .fe]
def stepS (s : SetT) : List StepM := [.wr (8 * s.1.toNat) (leB s.2 8), .fl (8 * s.1.toNat) (8 * 1)]
def stepE (sets : List SetT) : List StepM := sets.flatMap stepS
def walS (a : Nat) (h b : List Int) (sets : List SetT) : List StepM := stepA a ++ stepB a b (b.length / 8) ++ stepC a (b.length / 8) h ++ stepE sets ++ [.fe]
theorem stepB_succ (a : Nat) (b : List Int) (j : Nat) : stepB a b (j + 1) = stepB a b j ++ [.wr (8 * (a + 1 + j)) (cut b (8 * j) 8)] := by simp [stepB, List.range_succ]
theorem stepB_length (a : Nat) (b : List Int) (j : Nat) : (stepB a b j).length = j := by simp [stepB]
theorem stepE_length (sets : List SetT) : (stepE sets).length = 2 * sets.length := by
  induction sets with
  | nil => rfl
  | cons s l ih => rw [stepE, List.flatMap_cons, List.length_append]; rw [stepE] at ih; rw [ih, List.length_cons]; simp [stepS]; omega
section
variable {ops : Array Oper} {o : Oper} {a : Act} {Q : Exit → Act → World → Prop} {Kc : Act → World → Prop}
theorem appW_step {w0 W : World} (hw : Region.wanted o (yielded ops a.tmps) = true) (s x : Operand) (ho : o.op = .call { callee := .builtin .append, args := #[s, x], argTypes := #[43, 43] }) (n0 base q p : Nat) (v : Value) (xs ys : List StepW) (ms ns : List StepM) (A : Option Addr) (m c : Nat)
    (hm : ys.length = m) (hs : a.eval s = v) (hx : a.eval x = .slice A m c) (H : HasW w0 W n0 base q p v xs ms) (hr : SwK.C W A ys.length ys) (hy : AllW W (TW n0 v) q p ys ns) (hb : base ≤ W.heap.size) (hl : xs.length + ys.length ≤ 100000)
    (h : ∀ v1 w1, HasW w0 w1 n0 base q p v1 (xs ++ ys) (ms ++ ns) → Kc (a.put o.dst v1) w1) : if Region.wanted o (yielded ops a.tmps) = true then Oper.wp Tryz.prog o a W Kc Q else Kc (a.put o.dst undef) W := by
  subst hm
  refine Kd.R_append_rows_step SwK (w0 := w0) base hw s x 43 1 .nilFunc 8 ho Tryz.underlying43 info_fnW rfl (by decide) (by decide) v xs ys A ys.length c (fun _ => True) (fun _ => False) hs hx H.row hr (fun _ _ h => h) (fun _ hk => hk.elim) (fun _ _ => trivial) H.bel hb (by omega) ?_
  intro v1 w1 hr1 hb1 hg hat
  exact h v1 w1 (H.add hb hy hr1 hg hat)
theorem appW_list {w0 W : World} {rest : List Oper} (hgd : o.guard = none) (s x : Operand) (ho : o.op = .call { callee := .builtin .append, args := #[s, x], argTypes := #[43, 43] }) (n0 base q p : Nat) (v : Value) (xs ys : List StepW) (ms ns : List StepM) (A : Option Addr) (m c : Nat)
    (hm : ys.length = m) (hs : a.eval s = v) (hx : a.eval x = .slice A m c) (H : HasW w0 W n0 base q p v xs ms) (hr : SwK.C W A ys.length ys) (hy : AllW W (TW n0 v) q p ys ns) (hb : base ≤ W.heap.size) (hl : xs.length + ys.length ≤ 100000)
    (h : ∀ v1 w1, HasW w0 w1 n0 base q p v1 (xs ++ ys) (ms ++ ns) → wpList Tryz.prog ops Q rest (a.put o.dst v1) w1) : wpList Tryz.prog ops Q (o :: rest) a W := by
  subst hm
  refine Kd.R_append_rows SwK (w0 := w0) base hgd s x 43 1 .nilFunc 8 ho Tryz.underlying43 info_fnW rfl (by decide) (by decide) v xs ys A ys.length c (fun _ => True) (fun _ => False) hs hx H.row hr (fun _ _ h => h) (fun _ hk => hk.elim) (fun _ _ => trivial) H.bel hb (by omega) ?_
  intro v1 w1 hr1 hb1 hg hat
  exact h v1 w1 (H.add hb hy hr1 hg hat)
end
theorem stepE_take {sets : List SetT} {j : Nat} {x : SetT} (h : sets[j]? = some x) : stepE (sets.take (j + 1)) = stepE (sets.take j) ++ stepS x := by
  rw [List.take_add_one, h, Option.toList_some, stepE, List.flatMap_append, stepE]
  simp
theorem rowW_cell {w : World} {base : Nat} {u : Value} {xs : List StepW} (h : RowW w base u xs) (h0 : 0 < xs.length) : ∃ g c, u = .slice (some ⟨g, 0, none⟩) xs.length c ∧ base ≤ g ∧ ∀ k x, xs[k]? = some x → w.cell? ⟨g, k, none⟩ = some (encW x) := by
  obtain ⟨g, cap, e, hg, _⟩ := own_slice_form h h0
  refine ⟨g, cap, e, hg, fun k x hx => ?_⟩
  obtain ⟨A, c, e2, _, hC⟩ := Kd.R_reads h
  rw [e] at e2
  simp only [Value.slice.injEq] at e2
  obtain ⟨hA, _, _⟩ := e2
  have hR := Kd.reads_of_C (d := StepW.fe 0) hC
  obtain ⟨ad, ea, hc⟩ := hR.2.2 h0
  rw [← hA] at ea
  obtain rfl := Option.some.inj ea
  obtain ⟨hl, hk⟩ := List.getElem?_eq_some_iff.1 hx
  have := hc k hl
  rw [add_plain, List.getD_eq_getElem?_getD, hx] at this
  simpa using this
theorem cell_cells {w : World} {b o : Nat} {u : Value} (h : w.cell? ⟨b, o, none⟩ = some u) {ob : Obj} (hb : w.heap[b]? = some ob) : ob.isCells = true := by
  simp only [World.cell?, hb] at h
  cases ob <;> simp_all [Obj.isCells]
theorem IsW.monoC {w : World} {T T' : Nat → Prop} {q p : Nat} {x : StepW} {m : StepM} (h : IsW w T q p x m) (ht : ∀ b o u, w.cell? ⟨b, o, none⟩ = some u → T b → T' b) : IsW w T' q p x m := by
  cases x <;> cases m <;> simp only [IsW] at h ⊢
  · obtain ⟨h1, h2, h3, h4, ⟨i, h5, h5b, h5c⟩, h0, g, o, c, h6, h7, h8⟩ := h
    refine ⟨ht _ _ _ h4 h1, ht _ _ _ h5c h2, ht _ _ _ h7 h3, h4, ⟨i, h5, h5b, h5c⟩, h0, ?_⟩
    obtain ⟨ad, e, hx⟩ := h8.2.2 (by decide)
    obtain rfl := Option.some.inj e
    have := hx 0 (by decide)
    rw [add_plain] at this
    exact ⟨g, o, c, ht _ _ _ this h6, h7, h8⟩
  · obtain ⟨h1, h2, h3, h4, ⟨i, h5, h5b, h5c⟩, j, h6, h6b, h6c⟩ := h
    exact ⟨ht _ _ _ h4 h1, ht _ _ _ h5c h2, ht _ _ _ h6c h3, h4, ⟨i, h5, h5b, h5c⟩, j, h6, h6b, h6c⟩
  · exact h
theorem AllW.monoC {w : World} {T T' : Nat → Prop} {q p : Nat} (ht : ∀ b o u, w.cell? ⟨b, o, none⟩ = some u → T b → T' b) : ∀ {xs : List StepW} {ms : List StepM}, AllW w T q p xs ms → AllW w T' q p xs ms
  | [], [], _ => trivial
  | x :: xs, m :: ms, h => ⟨h.1.monoC ht, AllW.monoC ht h.2⟩
theorem IsW.moveC {w w1 : World} {T S : Nat → Prop} {q p : Nat} {x : StepW} {m : StepM} (h : IsW w T q p x m) (hf : Fr S w w1) (hs : ∀ b o u, w.cell? ⟨b, o, none⟩ = some u → T b → ¬ S b) : IsW w1 T q p x m :=
  ((h.monoC (T' := fun b => T b ∧ ¬ S b) (fun b o u hc ht => ⟨ht, hs b o u hc ht⟩)).move hf (fun b ht => ht.2)).mono (fun b _ ht => ht.1)
theorem AllW.moveC {w w1 : World} {T S : Nat → Prop} {q p : Nat} {xs : List StepW} {ms : List StepM} (h : AllW w T q p xs ms) (hf : Fr S w w1) (hs : ∀ b o u, w.cell? ⟨b, o, none⟩ = some u → T b → ¬ S b) : AllW w1 T q p xs ms :=
  ((h.monoC (T' := fun b => T b ∧ ¬ S b) (fun b o u hc ht => ⟨ht, hs b o u hc ht⟩)).move hf (fun b ht => ht.2)).mono (fun b _ ht => ht.1)
theorem IsW.monoN {w : World} {T T' : Nat → Prop} {q p : Nat} {x : StepW} {m : StepM} (h : IsW w T q p x m) (ht : ∀ b o u, u ≠ .slice none 0 0 → w.cell? ⟨b, o, none⟩ = some u → T b → T' b) : IsW w T' q p x m := by
  cases x <;> cases m <;> simp only [IsW] at h ⊢
  · obtain ⟨h1, h2, h3, h4, ⟨i, h5, h5b, h5c⟩, h0, g, o, c, h6, h7, h8⟩ := h
    refine ⟨ht _ _ _ (by simp) h4 h1, ht _ _ _ (by simp) h5c h2, ht _ _ _ (by simp) h7 h3, h4, ⟨i, h5, h5b, h5c⟩, h0, ?_⟩
    obtain ⟨ad, e, hx⟩ := h8.2.2 (by decide)
    obtain rfl := Option.some.inj e
    have := hx 0 (by decide)
    rw [add_plain] at this
    exact ⟨g, o, c, ht _ _ _ (by simp) this h6, h7, h8⟩
  · obtain ⟨h1, h2, h3, h4, ⟨i, h5, h5b, h5c⟩, j, h6, h6b, h6c⟩ := h
    exact ⟨ht _ _ _ (by simp) h4 h1, ht _ _ _ (by simp) h5c h2, ht _ _ _ (by simp) h6c h3, h4, ⟨i, h5, h5b, h5c⟩, j, h6, h6b, h6c⟩
  · exact h
theorem AllW.monoN {w : World} {T T' : Nat → Prop} {q p : Nat} (ht : ∀ b o u, u ≠ .slice none 0 0 → w.cell? ⟨b, o, none⟩ = some u → T b → T' b) : ∀ {xs : List StepW} {ms : List StepM}, AllW w T q p xs ms → AllW w T' q p xs ms
  | [], [], _ => trivial
  | x :: xs, m :: ms, h => ⟨h.1.monoN ht, AllW.monoN ht h.2⟩
theorem boxed_cell {w : World} {B : Nat} {t : TypeId} {v : Value} (h : Boxed w B t v) {o : Nat} {u : Value} (hc : w.cell? ⟨B, o, none⟩ = some u) : o = 0 ∧ u = v := by
  have hh : w.heap[B]? = some (.cells #[v] t (0, 0)) := h
  simp only [World.cell?, hh] at hc
  cases o with
  | zero => exact ⟨rfl, by simpa using hc.symm⟩
  | succ o => simp at hc
def TZ (n0 B : Nat) (v : Value) (b : Nat) : Prop := n0 ≤ b ∧ b ≠ B ∧ some b ≠ v.ownBlock
def ZW (n0 B q p : Nat) (y : StepW × StepM) (W : World) : Prop := ∀ v, Boxed W B 43 v → IsW W (TZ n0 B v) q p y.1 y.2
def SK (B : Nat) (v : Value) (W : World) (b : Nat) : Prop := b = B ∨ some b = v.ownBlock ∨ ∃ o, W.heap[b]? = some o ∧ o.isCells = false
def KW (B : Nat) (W W' : World) : Prop := ∀ v, Boxed W B 43 v → ∃ v', Boxed W' B 43 v' ∧ Fr (SK B v W) W W' ∧ ∀ b, some b = v'.ownBlock → some b = v.ownBlock ∨ W.heap.size ≤ b
theorem KW.trans {B : Nat} {X Y V : World} (h : KW B X Y) (k : KW B Y V) : KW B X V := by
  intro v hv
  obtain ⟨v1, h1, f1, g1⟩ := h v hv
  obtain ⟨v2, h2, f2, g2⟩ := k v1 h1
  refine ⟨v2, h2, f1.trans f2 (fun b hb hlt => ?_), fun b hb => ?_⟩
  · rcases hb with rfl | hb | ⟨o, ho, hc⟩
    · exact .inl rfl
    · rcases g1 b hb with h | h
      · exact .inr (.inl h)
      · omega
    · by_cases hs : SK B v X b
      · exact hs
      · refine .inr (.inr ⟨o, ?_, hc⟩)
        rw [← f1.block b hlt hs]
        exact ho
  · rcases g2 b hb with h | h
    · exact g1 b h
    · exact .inr (Nat.le_trans f1.size h)
theorem fr_put {W : World} {l : Nat} (o' : Obj) (S : Nat → Prop) (hl : S l) : Fr S W (W.putObj l o') := ⟨rfl, rfl, rfl, by simp, fun k _ hk => World.putObj_heap_other (fun e => hk (by rw [e]; exact hl))⟩
structure HeldW (n0 B q p g : Nat) (zs : List StepW) (Ms : List StepM) (W : World) : Prop where
  ex : ∃ v, Boxed W B 43 v ∧ some g ≠ v.ownBlock ∧ AllW W (TZ n0 B v) q p zs Ms
  row : ∀ k x, zs[k]? = some x → W.cell? ⟨g, k, none⟩ = some (encW x)
  ne : g ≠ B
theorem HeldW.kept {n0 B q p g : Nat} {zs : List StepW} {Ms : List StepM} {W W' : World} (h : HeldW n0 B q p g zs Ms W) (k : KW B W W') (hg : g < W.heap.size) : HeldW n0 B q p g zs Ms W' := by
  obtain ⟨v, hv, hne, ha⟩ := h.ex
  obtain ⟨v', hv', hf, ho⟩ := k v hv
  have hs : ∀ b o u, W.cell? ⟨b, o, none⟩ = some u → b ≠ B → some b ≠ v.ownBlock → ¬ SK B v W b := by
    rintro b o u hc h1 h2 (h3 | h3 | ⟨ob, h3, h4⟩)
    · exact h1 h3
    · exact h2 h3
    · have := cell_cells hc h3
      rw [h4] at this
      cases this
  refine ⟨⟨v', hv', fun e => ?_, ?_⟩, fun k x hx => hf.cell (h.row k x hx) (hs _ _ _ (h.row k x hx) h.ne hne), h.ne⟩
  · rcases ho g e with h1 | h1
    · exact hne h1
    · omega
  · refine ((ha.monoC (T' := fun b => TZ n0 B v b ∧ b < W.heap.size) (fun b o u hc ht => ⟨ht, World.block_lt_of_cell? _ _ hc⟩)).moveC hf (fun b o u hc ht => hs b o u hc ht.1.2.1 ht.1.2.2)).mono (fun b _ ht => ⟨ht.1.1, ht.1.2.1, fun e => ?_⟩)
    rcases ho b e with h1 | h1
    · exact ht.1.2.2 h1
    · omega
theorem HeldW.told {n0 B q p g : Nat} {zs : List StepW} {Ms : List StepM} {W : World} (h : HeldW n0 B q p g zs Ms W) {k : Nat} {x : StepW} (hx : zs[k]? = some x) : ∃ m, Ms[k]? = some m ∧ ZW n0 B q p (x, m) W := by
  obtain ⟨v, hv, hne, ha⟩ := h.ex
  obtain ⟨m, hm, hi⟩ := ha.get hx
  refine ⟨m, hm, fun v2 hv2 => ?_⟩
  have : v2 = v := by
    have h1 : W.heap[B]? = some (.cells #[v] 43 (0, 0)) := hv
    have h2 : W.heap[B]? = some (.cells #[v2] 43 (0, 0)) := hv2
    rw [h1] at h2
    simpa using h2.symm
  subst this
  exact hi
theorem KW.put {B : Nat} {W : World} {l : Nat} {o o' : Obj} (hB : B ≠ l) (h : W.heap[l]? = some o) (hc : o.isCells = false) : KW B W (W.putObj l o') := by
  intro v hv
  exact ⟨v, (World.putObj_heap_other hB).trans hv, fr_put o' _ (.inr (.inr ⟨o, h, hc⟩)), fun b hb => .inl hb⟩
theorem ZW.put {n0 B q p : Nat} {y : StepW × StepM} {W : World} {l : Nat} {o o' : Obj} (hB : B ≠ l) (h : W.heap[l]? = some o) (hc : o.isCells = false) (hz : ZW n0 B q p y W) : ZW n0 B q p y (W.putObj l o') := by
  intro v hv
  have hv0 : Boxed W B 43 v := (World.putObj_heap_other hB).symm.trans hv
  refine (hz v hv0).moveC (fr_put o' (fun b => b = l) rfl) (fun b o2 u hcell _ e => ?_)
  subst e
  have := cell_cells hcell h
  rw [hc] at this
  cases this
end Go.Proofs.YtbfogcckbhkciaaGreat.Hand
