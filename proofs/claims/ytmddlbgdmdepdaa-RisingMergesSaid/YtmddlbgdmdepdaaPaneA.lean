/- What the panes' own map keys are; closed facts of this translation. No condition. -/
import Derived.Test.YtmddlbgdmdepdaaKitB
import Derived.Test.YtmddlbgdmdepdaaProg
import Derived.KernelRfl
import Derived.DeepKeys4
import Derived.WalkLawsBesides
set_option linter.unusedVariables false
set_option linter.unusedSimpArgs false
set_option maxRecDepth 100000
namespace Go.Proofs.Ytmddlbgdmdepdaa
open Go.Maps Go.MapKept Go.RowKit Go.ChangeMaps CK

theorem laidOut : laidOutB Try.prog = true := by kernel_rfl
theorem cellRow : (82 : TypeId) < Try.prog.types.size := of_decide_eq_true (by kernel_rfl)
theorem cellWide : (match Try.prog.underlying 82 with | some (.array _ _) | some (.struct _) => true | _ => false) = true := by rw [Try.underlying82]
theorem cellKeyed : Keyed Try.prog 82 := Keyed.of_law (deep_law_laid laidOut (m := 2) (by omega) cellRow (by kernel_rfl) cellWide)

def ekCell (c : ByteArray × Int) : Value := .agg #[.string c.1, .int .i64 c.2]
theorem ekCell_inj : ∀ x y, ekCell x = ekCell y → x = y := by
  rintro ⟨a, b⟩ ⟨c, d⟩ h
  simp [ekCell] at h
  rw [h.1, h.2]
theorem typesSize : ∃ n, Try.prog.types.size + 1 = n + 2 := ⟨Try.prog.types.size - 1, by have : 1 ≤ Try.prog.types.size := of_decide_eq_true (by kernel_rfl); omega⟩
theorem cells9 : Try.prog.cellsOf 9 = 1 := by kernel_rfl
theorem cells3 : Try.prog.cellsOf 3 = 1 := by kernel_rfl
theorem cells82 : Try.prog.cellsOf 82 = 2 := by kernel_rfl
theorem cellGood (s : ByteArray) (n : Int) (hs : s.size ≤ maxLen) (hn : (Lit.int .i64 n).wf = true) : GoodK Try.prog 82 (ekCell (s, n)) := by
  have h1 : Try.prog.keyType 82 = true := by kernel_rfl
  have h2 : (ekCell (s, n)).formed Try.prog 82 = true := by simp [ekCell, Value.formed, Try.underlying82, cells82]
  unfold GoodK keyOf
  rw [Try.underlying82]
  simp only [h1, h2]
  obtain ⟨d, hd⟩ := typesSize
  rw [hd]
  simp [ekCell, Program.keyLits, Try.underlying82, Try.underlying9, Try.underlying3, cells82, cells9, cells3, hs, hn, List.mapM_cons, Value.cells]
end Go.Proofs.Ytmddlbgdmdepdaa
