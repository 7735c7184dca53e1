/- Copies of slots. -/
import Derived.Test.YtbogfjadmiodkaaHandLawSMade
import Derived.Test.YtbogfjadmiodkaaHandClone
namespace Go.Proofs.Ytbogfjadmiodkaa.Hand
open Go.RowKit Go.Proofs.YtbogfjadmiodkaaW.PrintWords
set_option linter.unusedVariables false
set_option linter.unusedSimpArgs false
theorem clone_slots (A : Option Addr) (c : Nat) (L : List Sl) (w : World) (h : RdS w A L) (hl : L.length ≤ 65536) :
    Calls Try.prog 45 #[.slice A L.length c] w fun e w' => ∃ v : Value, e = .returned v ∧ SlK.R 70 w' 0 (New w) v L ∧ Below w.heap.size w w' := by
  have q22 : ∀ (w : World) (a : Option Addr) (n c n' c' : Nat), (binOp .eql 66 (.slice a n c) (.slice none n' c')).run Try.prog w = .ok (.bool a.isNone) w := fun w a n c n' c' => Lib.run_eql_slice_nil w _ _ a n c n' c' Try.underlying66
  have HR := Aside0.mk h
  clear h
  cases A with
  | none =>
    go_enter Try.func45, Try.ntmps45
    go_wp2
    go_ret
    obtain ⟨h1, h2, h3⟩ := HR.out
    obtain rfl : L = [] := by
      cases L with
      | nil => rfl
      | cons x l => exact absurd (h3 (by simp)) (by simp)
    exact ⟨_, rfl, Kd.R_nil _ _ _ _ _, Below.refl _ _⟩
  | some a =>
    go_enter Try.func45, Try.ntmps45
    go_wp2_with ((with_reducible refine gate_bi (b := .append) (xs := #[.tmp 5, .tmp 6]) rfl ?_); at_builtin; refine Kd.R_append_rows SlK (w0 := w) w.heap.size rfl (.tmp 5) (.tmp 6) 66 70 (.agg #[.int .i64 0, .bool false, .int .u64 0]) 24 rfl Try.underlying66 info_sl rfl (by decide) (by decide) (.slice (some ⟨w.heap.size, 0, none⟩) 0 0) [] L (some a) L.length c (fun _ => True) (fun _ => False) rfl rfl ?c1 ?c2 (fun _ _ h => h) (fun _ h => h.elim) (fun _ _ => trivial) ?c3 ?c4 ?c5 ?_)
    case c1 => exact R_flat.2 ⟨fun _ _ => trivial, by have h := World.ownsRow_made (e := 70) (size := 3) w #[] 0 (show w.heap.size ≤ _ by simp) (Nat.zero_le _) (rfl : (#[] : Array Value).size = 0 * 3); simpa using h⟩
    case c2 => exact HR.out.below (below_alloc (Below.refl _ _) _)
    case c3 => exact below_alloc (Below.refl _ _) _
    case c4 => simp
    case c5 => simp; omega
    intro v1 w1 ho hb hg hat
    have HO : Aside0 (SlK.R 70 w1 0 (New w) v1 L) := ⟨own_new ho (Nat.le_refl _)⟩
    go_wp2
    go_ret
    exact ⟨_, rfl, HO.out, hb⟩
theorem copy_calls (w : World) (p : Nat) (v : Value) (L : List Sl) (h : HasSl w p v L) (hl : L.length ≤ 65536) :
    Calls Try.prog 34 #[.pointer (some ⟨p, 0, none⟩)] w fun e w' => ∃ (p2 : Nat) (v2 : Value), e = .returned (.pointer (some ⟨p2, 0, none⟩)) ∧ HasSl w' p2 v2 L ∧ w.heap.size ≤ p2 ∧ (∀ b, some b = v2.ownBlock → w.heap.size ≤ b) ∧ Below w.heap.size w w' := by
  obtain ⟨A, c, hv, hlc, hC⟩ := flat_reads h.row
  subst hv
  have hc := cell_of_one h.ptr
  have HC := Aside0.mk (show RdS w A L from hC)
  clear hC h
  go_enter Try.func34, Try.ntmps34
  go_wp2_with (go_at_call 45; (with_reducible refine (clone_slots A c L _ HC.out hl).mono ?_); rintro e w1 ⟨v1, rfl, hr1, hb1⟩; have HR1 := Aside0.mk hr1; have HB1 := Aside0.mk hb1; obtain ⟨A2, c2, hu1, _, _⟩ := flat_reads hr1; subst hu1; clear hr1 hb1)
  go_ret
  refine ⟨w1.heap.size, _, rfl, ⟨heap_alloc_new w1 _, ?_⟩, HB1.out.size, fun b hb => (R_flat.1 HR1.out).1 b hb.symm, below_alloc HB1.out _⟩
  exact Kd.R_mono (Kd.R_below (Kd.R_bound HR1.out) (below_alloc (Below.refl _ _) _)) (fun k hk => by have := hk.2.2.1; omega)
end Go.Proofs.Ytbogfjadmiodkaa.Hand
