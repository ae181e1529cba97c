/- WindowAts: the law's function returns true, by a walk. No condition. -/
import Derived.Test.YtmddlbgdmdepdaaWinJ
set_option linter.unusedVariables false
set_option linter.unusedSimpArgs false
set_option maxRecDepth 100000
namespace Go.Proofs.Ytmddlbgdmdepdaa
open Go.Maps Go.MapKept Go.RowKit Go.ChangeMaps CK Go.Proofs.YtmddlbgdmdepdaaW.PrintLast

theorem longB_false {l : List Add} (h : longB l = false) : l.length ≤ 60 := by
  simp only [longB, Bool.or_eq_false_iff, decide_eq_false_iff_not] at h; omega

end Go.Proofs.Ytmddlbgdmdepdaa
