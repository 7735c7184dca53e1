/- An append of one byte, as a run. -/
import Derived.Test.YtbogfjadmiodkaaHandSet
namespace Go.Proofs.Ytbogfjadmiodkaa.Hand
open Go.RowKit Go.Proofs.YtbogfjadmiodkaaW.PrintWords

theorem append_run (W : World) (ok : Nat → Prop) (v : Value) (xs : List Int) (x : Int) (h : Kd.R (Kd.int .u8) 5 W 0 ok v xs) (hok : ∀ k, W.heap.size ≤ k → ok k) (hl : xs.length + 1 ≤ 140737488355328) :
    ∃ v1 w1, (Builtin.append_ #[34, 34] 34 #[v, .slice (some ⟨W.heap.size, 0, none⟩) 1 1]).run Try.prog (W.alloc (.cells #[.int .u8 x] 5)) = .ok v1 w1 ∧ Kd.R (Kd.int .u8) 5 w1 0 ok v1 (xs ++ [x]) ∧ W.grownBy w1 v.ownBlock := by
  obtain ⟨i0, hi, hzz⟩ := Option.map_eq_some_iff.1 info_u8
  simp only [Prod.mk.injEq] at hzz
  obtain ⟨hz0, hz1, hz2⟩ := hzz
  obtain ⟨v1, w1, hr, hown, hg, _, hat⟩ := run_append_own_at (P := Try.prog) (W.alloc (.cells #[.int .u8 x] 5)) 0 34 34 5 i0 (.int .u8 0) 1 1 Try.underlying34 hi hz0 hz1 hz2 rfl (by decide) v xs.length (encs (Value.int .u8) xs) ((Kd.own_of_R h).alloc _) ⟨W.heap.size, 0, none⟩ 1 1 [.int .u8 x] (by simp)
    (by simpa using World.news_of_block (cs := #[.int .u8 x]) (t := 5) (fr := (0, 0)) (heap_alloc_new W (.cells #[.int .u8 x] 5))) (by simp [Value.oneCell']) (by simp only [maxLen]; omega) (by omega) (by simp)
  have hn : (xs ++ [x]).length = xs.length + 1 := by simp
  refine ⟨v1, w1, hr, Kd.R_of_own (by rw [hn, encs_append]; exact hown) (fun k hk => ?_), World.grownBy.trans (World.grownBy_alloc W _ _) hg⟩
  rcases hat with e1 | e1
  · exact h.1 k (by rw [← e1]; exact hk)
  · rw [e1] at hk
    injection hk with hk
    subst hk
    exact hok _ (by simp)
end Go.Proofs.Ytbogfjadmiodkaa.Hand
