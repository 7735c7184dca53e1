/- Contract of slices.Clone at []byte: the copy is a new row that holds the same bytes. -/
import Derived.Test.YtbfogcckbhkciaaProg
import Derived.WalkKit
import Derived.WalkSpells
import Derived.Below
import Derived.OwnWalk
import Derived.BigFrame
import Derived.KernelRfl
import Derived.Outline
import Derived.Test.YtbfogcckbhkciaaWWords
namespace Go.Proofs.Ytbfogcckbhkciaa.Hand
open Go.RowKit Go.Proofs.YtbfogcckbhkciaaW.PrintWords

theorem info_u8 : (Try.prog.info? 5).map (fun i => (i.zero, i.size, i.bytes)) = some (some (.int .u8 0), 1, 1) := by kernel_rfl

/-- slices.Clone at []byte: a new row that holds what the old one holds. -/
theorem clone_bytes (A : Option Addr) (c : Nat) (l : List Int) (w : World) (hr : ReadsInt w .u8 A l.length l) (hl : l.length ≤ 140737488355328) :
    Calls Try.prog 61 #[.slice A l.length c] w fun e w' => ∃ v : Value, e = .returned v ∧ Kd.R (Kd.int .u8) 5 w' w.heap.size (fun _ => True) v l ∧ Below w.heap.size w w' := by
  have q22 : ∀ (w : World) (a : Option Addr) (n c n' c' : Nat), (binOp .eql 23 (.slice a n c) (.slice none n' c')).run Try.prog w = .ok (.bool a.isNone) w := fun w a n c n' c' => Lib.run_eql_slice_nil w _ _ a n c n' c' Try.underlying23
  have HR := Aside0.mk hr
  clear hr
  cases A with
  | none =>
    go_enter Try.func61, Try.ntmps61
    go_wp2
    go_ret
    obtain ⟨h1, h2, h3⟩ := HR.out
    obtain rfl : l = [] := by
      cases l with
      | nil => rfl
      | cons x l => exact absurd (h3 (by simp)) (by simp)
    exact ⟨_, rfl, Kd.R_nil _ _ _ _ _, Below.refl _ _⟩
  | some a =>
    go_enter Try.func61, Try.ntmps61
    go_wp2_with (at_builtin; refine Kd.R_append_row (Value.int .u8) 0 (h1 := fun _ => rfl) (w0 := w) w.heap.size rfl (.tmp 5) (.tmp 6) 23 5 (.int .u8 0) 1 rfl Try.underlying23 info_u8 rfl (by decide) (.slice (some ⟨w.heap.size, 0, none⟩) 0 0) [] l (some a) l.length c (fun _ => True) rfl rfl (fun _ _ => trivial) ?c1 ?c2 ?c3 ?c4 ?c5 ?_)
    case c1 => exact Kd.R_of_own (World.ownsRow_made w #[] 0 (Nat.le_refl _) (Nat.zero_le _) rfl) (fun _ _ => trivial)
    case c2 => exact Kd.C_below (d := Kd.int .u8) (Kd.C_of_reads (d := (0 : Int)) (h1 := fun _ => rfl) HR.out) (below_alloc (Below.refl _ _) _)
    case c3 => exact below_alloc (Below.refl _ _) _
    case c4 => simp
    case c5 => simpa using hl
    intro v1 w1 ho hb hg hat
    go_wp2
    go_ret
    exact ⟨_, rfl, ho, hb⟩

def cloneF (l : List Int) : Option (List Int) := if l.length ≤ 140737488355328 then some l else none
theorem clone_calls (A : Option Addr) (c : Nat) (l r : List Int) (w : World) (hr : Kd.C (Kd.int .u8) w A l.length l) (h : cloneF l = some r) :
    Calls Try.prog 61 #[.slice A l.length c] w fun e w' => ∃ v : Value, e = .returned v ∧ Kd.R (Kd.int .u8) 5 w' w.heap.size (fun _ => True) v r ∧ Below w.heap.size w w' := by
  unfold cloneF at h
  by_cases hl : l.length ≤ 140737488355328
  · rw [if_pos hl] at h
    obtain rfl := Option.some.inj h
    exact clone_bytes A c l w (Kd.reads_of_C (d := (0 : Int)) hr |> fun h => ⟨h.1, by omega, h.2.2⟩) hl
  · rw [if_neg hl] at h
    exact absurd h (by simp)

end Go.Proofs.Ytbfogcckbhkciaa.Hand
