/- The contract of event.Name, by a walk over the library's strings.ContainsFunc. No condition. -/
import Derived.Test.YtmddlbgdmdepdaaKitA
import Derived.Test.YtmddlbgdmdepdaaShelfB
import Derived.WalkKit
set_option linter.unusedVariables false
set_option linter.unusedSimpArgs false
set_option maxRecDepth 100000
namespace Go.Proofs.Ytmddlbgdmdepdaa
open Go.RowKit Go.Shelf CK

/-- a sign that no name has -/
def oddR (x : Nat) : Bool := !((decide (97 ≤ x) && decide (x ≤ 122)) || (decide (48 ≤ x) && decide (x ≤ 57)) || decide (x = 45))
def nameB (s : ByteArray) : Bool := decide (1 ≤ s.size) && decide (s.size ≤ 24) && !decide (0 ≤ Lib.idxFunc oddR true s)
theorem name_ret {a b : Bool} (h : a = b) : Ending.returned (.bool a) = .returned (.bool b) := by rw [h]
theorem beq45 (x : Nat) : ((x : Int) == 45) = decide (x = 45) := by
  rw [Bool.eq_iff_iff, beq_iff_eq, decide_eq_true_iff]; omega
theorem odd_calls (x : Nat) (w : World) : Calls Try.prog 64 #[.int .i32 x] w fun e w' => e = .returned (.bool (oddR x)) ∧ w = w' := by
  obtain ⟨r, hr⟩ : ∃ r, r = oddR x := ⟨_, rfl⟩
  rw [← hr]
  have HR := Lib.hid hr
  clear hr
  go_enter Try.func64, Try.ntmps64
  go_wp2
  all_goals
    go_ret
    refine ⟨name_ret ?_, rfl⟩
    rw [HR.out, Bool.eq_iff_iff]
    simp only [oddR, Bool.not_eq_true', Bool.or_eq_false_iff, Bool.and_eq_false_iff, decide_eq_false_iff_not, decide_eq_true_iff, Bool.false_eq_true, beq_iff_eq, bne_iff_ne, false_iff, true_iff, Bool.not_eq_false']
    first | omega | (simp only [beq45, Bool.and_eq_true, Bool.not_eq_true', decide_eq_false_iff_not, decide_eq_true_iff]; omega)
theorem odd_at (w : World) : PredAt Try.prog 64 #[] encR oddR w := fun W x _ => (odd_calls x W).mono fun e w' ⟨h1, h2⟩ => ⟨h1, 0, by rw [h2]; rfl⟩
theorem name_calls (s : ByteArray) (w : World) (hs : s.size ≤ 9223372036854775807) : Calls Try.prog 39 #[.string s] w fun e w' => e = .returned (.bool (nameB s)) ∧ Below w.heap.size w w' := by
  have eg : ∀ args w, (callFunc 64 args).run Try.prog w = .ok (.enter 64 args) w := enters_of Try.func64 (by kernel_rfl) rfl
  have hcon : ∀ w, Calls Try.prog 65 #[.string s, .func (.func 64) #[] #[]] w fun e w' => e = .returned (.bool (decide (0 ≤ Lib.idxFunc oddR true s))) ∧ Below w.heap.size w w' := fun w => Any.strings_ContainsFunc Try.containsFuncL 64 #[] eg oddR s w (odd_at w)
  have HC := Lib.hid hcon
  clear eg hcon
  obtain ⟨B, hB⟩ : ∃ B, B = decide (0 ≤ Lib.idxFunc oddR true s) := ⟨_, rfl⟩
  have HBd := Lib.hid hB
  have HB : Hid (Below w.heap.size w w) := Below.refl _ _
  clear hB
  by_cases h1 : 1 ≤ s.size
  · by_cases h2 : s.size ≤ 24
    · have HR : Hid ((!B) = nameB s) := by show _ = _; simp [nameB, h1, h2, HBd.out]
      go_enter Try.func39, Try.ntmps39
      go_wp2_with fail
      refine (HC.out _).mono ?_
      rintro e w1 ⟨rfl, hb⟩
      rw [← HBd.out]
      have HB := Lib.hid hb
      clear hb
      go_wp2
      go_ret
      exact ⟨name_ret HR.out, HB.out⟩
    · have HR : Hid (nameB s = false) := by show _ = _; simp [nameB, h2]
      rw [HR.out]
      go_enter Try.func39, Try.ntmps39
      go_wp2
      go_ret
      exact ⟨rfl, HB.out⟩
  · have HR : Hid (nameB s = false) := by show _ = _; simp [nameB, h1]
    rw [HR.out]
    go_enter Try.func39, Try.ntmps39
    go_wp2
    go_ret
    exact ⟨rfl, HB.out⟩
end Go.Proofs.Ytmddlbgdmdepdaa
