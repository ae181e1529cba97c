/- WindowHolds: the law's walk over the row's arguments. No condition. -/
import Derived.Test.YtgmbbjkkmgooiaaWinE
import Derived.Test.YtgmbbjkkmgooiaaArgs
set_option linter.unusedVariables false
set_option linter.unusedSimpArgs false
namespace Go.Proofs.Ytgmbbjkkmgooiaa
open Go.RowKit CK
theorem law_holds (s : Spec) (x : Int) (w : World) (hs : s.ok) (hx : (Lit.int .i64 x).wf = true) :
    Calls Try.prog 3 #[.agg s.cs.toArray, .int .i64 x] w (BoolPost w true) := by
  by_cases h : mayB s.size s.hop 1 = true ∧ 0 ≤ x ∧ x ≤ 1099511627776
  · exact law_holds_yes w s.size s.hop x h.1 h.2.1 h.2.2
  · refine law_holds_no w s.size s.hop x ?_
    cases hm : mayB s.size s.hop 1
    · exact .inl rfl
    · right; rw [hm] at h; simp at h; omega
end Go.Proofs.Ytgmbbjkkmgooiaa
