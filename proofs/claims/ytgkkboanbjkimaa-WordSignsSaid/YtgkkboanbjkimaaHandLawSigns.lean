/- WordSigns, walked. -/
import Derived.Test.YtgkkboanbjkimaaHandSigns
import Derived.Test.YtgkkboanbjkimaaHandLaw1
import Derived.Test.YtgkkboanbjkimaaHandOpen
namespace Go.Proofs.Ytgkkboanbjkimaa.Hand
open Go.RowKit Go.Proofs.YtgkkboanbjkimaaW.PrintWords
set_option maxHeartbeats 2000000 in
theorem signs_calls (n width kind : Int) (w : World) (h0 : 0 ≤ n) (h1 : n < 18446744073709551616) :
    Calls Try.prog 9 #[.int .u64 n, .int .i64 width, .int .i64 kind] w fun e w' => e = .returned (.bool true) ∧ Below w.heap.size w w' := by
  have HS := Aside0.mk (sign_one n width h0 h1)
  have HT := Aside0.mk (sign_twice n width)
  have HF := Aside0.mk (fits_one n width h0 h1)
  clear h1
  go_enter Try.func9, Try.ntmps9
  go_wp2_with (first | (go_at_call 10; refine (alive_calls _).mono ?_; rintro e wA ⟨rfl, hbA⟩; have HBA := Aside0.mk hbA; clear hbA) | (go_at_call 21; refine (rSign_calls n width h0 _).mono ?_; rw [← HS.out]; rintro e w' ⟨rfl, rfl⟩) | (go_at_call 20; refine (sign_calls _ width _).mono ?_; (try rw [HT.out]); rintro e w' ⟨rfl, rfl⟩) | (go_at_call 22; refine (rFits_calls n width _ h0 _).mono ?_; rw [← HS.out]; rintro e w' ⟨rfl, rfl⟩) | (go_at_call 16; (with_reducible refine (fits_signed_calls n width _).mono ?_); rintro e w' ⟨rfl, rfl⟩) | (go_at_call 16; (with_reducible refine (fits_calls n width _).mono ?_); rw [HF.out]; rintro e w' ⟨rfl, rfl⟩) | (go_at_call 23; refine (size_calls kind _).mono ?_; rintro e w' ⟨rfl, rfl⟩) | (go_at_call 24; refine (rSize_calls kind _).mono ?_; rintro e w' ⟨rfl, rfl⟩))
  go_ret
  exact ⟨rfl, HBA.out⟩
theorem wordSigns_walk (n width kind : Int) (w : World) (h : (Lit.int .u64 n).wf = true) (_h1 : (Lit.int .i64 width).wf = true) (_h2 : (Lit.int .i64 kind).wf = true) :
    Calls Try.prog 9 #[.int .u64 n, .int .i64 width, .int .i64 kind] w fun e w' => e = .returned (.bool true) ∧ Below w.heap.size w w' :=
  signs_calls n width kind w (wf_u64 h).1 (wf_u64 h).2
end Go.Proofs.Ytgkkboanbjkimaa.Hand
