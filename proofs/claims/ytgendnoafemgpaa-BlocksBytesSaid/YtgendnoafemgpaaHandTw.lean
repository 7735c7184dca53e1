/- BlocksBytes, walked. -/
import Derived.Test.YtgendnoafemgpaaHandTy1
import Derived.Test.YtgendnoafemgpaaHandTy2
import Derived.Test.YtgendnoafemgpaaHandTy3
import Derived.Test.YtgendnoafemgpaaHandTy4
import Derived.Test.YtgendnoafemgpaaHandTy5
namespace Go.Proofs.Ytgendnoafemgpaa.Hand
attribute [local go_sem] Oper.semAt_some
open Go.RowKit Go.Maps Go.Sort Go.Shelf Go.Proofs.YtgendnoafemgpaaW.PrintWords Go.Proofs.YtgendnoafemgpaaW.PrintLast Go.Proofs.Ytgendnoafemgpaa.PHandRB
set_option linter.unusedVariables false
set_option linter.unusedSimpArgs false
theorem blocksBytes_walk (U : Int) (B : Option Addr) (d : Nat) (os : List OpB) (A : Option Addr) (c : Nat) (l : List Int) (w : World) (hU : (Lit.int .i64 U).wf = true) (ho : OpBK.C w B os.length os) (hwo : ∀ o ∈ os, WfB o) (hr : ReadsInt w .u8 A l.length l) (hby : Bys l) (hll : l.length ≤ 140737488351232) :
    Calls Try.prog 9 #[.int .i64 U, .slice B os.length d, .slice A l.length c] w fun e w' => e = .returned (.bool true) ∧ Below w.heap.size w w' := by
  have hln := ops_len ho
  cases hf : fewB U os.length with
  | false => exact bytes_c1 U B d os A c l w hln hll hf
  | true =>
    obtain ⟨h60, _⟩ := fewB_of hf
    by_cases h0 : U < 0
    · exact bytes_c2 U B d os A c l w hln hll hf h0
    by_cases h6 : 60 < U
    · exact bytes_c3 U B d os A c l w hln hll hf h0 h6
    by_cases hl : 600 < l.length
    · exact bytes_c4 U B d os A c l w hln hll hf h0 h6 hl
    obtain ⟨V, hV⟩ : ∃ V : Nat, U = V := ⟨U.toNat, by omega⟩
    by_cases h1 : 1 < l.length
    · by_cases h2 : 200 < l.getD 0 0 + 256 * l.getD 1 0
      · by_cases h3 : l.getD 0 0 + 256 * l.getD 1 0 ≤ 1024
        · exact bytes_c7 U B d os A c l w hln hll hr hby hf h0 h6 hl h1 ⟨h2, h3⟩
        · exact bytes_c8 U B d os A c l w hln hll V hV (by omega) hr hby ho hwo h60 hf h0 h6 hl h1 (by omega)
      · exact bytes_c6 U B d os A c l w hln hll V hV (by omega) hr hby ho hwo h60 hf h0 h6 hl h1 h2
    · exact bytes_c5 U B d os A c l w hln hll V hV (by omega) hr hby ho hwo h60 hf h0 h6 hl h1
end Go.Proofs.Ytgendnoafemgpaa.Hand
