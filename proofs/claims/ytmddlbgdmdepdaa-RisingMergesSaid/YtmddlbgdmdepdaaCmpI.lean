/- The contracts of cmp.Compare at numbers, cmp.Or[int] at two and three, by walks. No condition. -/
import Derived.Test.YtmddlbgdmdepdaaSortK
import Derived.Test.YtmddlbgdmdepdaaWLast
set_option linter.unusedVariables false
set_option linter.unusedSimpArgs false
set_option maxRecDepth 100000
namespace Go.Proofs.Ytmddlbgdmdepdaa
open Go.Maps Go.MapKept Go.RowKit Go.ChangeMaps CK Go.Proofs.YtmddlbgdmdepdaaW.PrintLast

def cmpI (x y : Int) : Int := if x < y then -1 else if y < x then 1 else 0
theorem compare64_calls (x y : Int) (w : World) : Calls Try.prog 47 #[.int .i64 x, .int .i64 y] w fun e w' => e = .returned (.int .i64 (cmpI x y)) ∧ w' = w := by
  obtain ⟨r, hr⟩ : ∃ r, r = cmpI x y := ⟨_, rfl⟩
  rw [← hr]
  have HR := Lib.hid hr
  clear hr
  have hx : (x != x) = false := by simp
  have hy : (y != y) = false := by simp
  by_cases h1 : x < y
  · have d1 : decide (x < y) = true := by simpa using h1
    go_enter Try.func47, Try.ntmps47
    go_wp2
    go_ret
    exact ⟨ret_int (by rw [HR.out, cmpI, if_pos h1]), rfl⟩
  · have d1 : decide (x < y) = false := by simpa using h1
    by_cases h2 : y < x
    · have d2 : decide (y < x) = true := by simpa using h2
      go_enter Try.func47, Try.ntmps47
      go_wp2
      go_ret
      exact ⟨ret_int (by rw [HR.out, cmpI, if_neg (by omega), if_pos (by omega)]), rfl⟩
    · have d2 : decide (y < x) = false := by simpa using h2
      go_enter Try.func47, Try.ntmps47
      go_wp2
      go_ret
      exact ⟨ret_int (by rw [HR.out, cmpI, if_neg (by omega), if_neg (by omega)]), rfl⟩
theorem or2_calls (x y : Int) (g : Nat) (w : World) (c0 : w.cell? ⟨g, 0, none⟩ = some (.int .i64 x)) (c1 : w.cell? ⟨g, 1, none⟩ = some (.int .i64 y)) :
    Calls Try.prog 46 #[.slice (some ⟨g, 0, none⟩) 2 2] w fun e w' => e = .returned (.int .i64 (if x = 0 then y else x)) ∧ w' = w := by
  obtain ⟨r, hr⟩ : ∃ r, r = (if x = 0 then y else x) := ⟨_, rfl⟩
  rw [← hr]
  have HR := Lib.hid hr
  clear hr
  by_cases hx : x = 0
  · have hb : (x != 0) = false := by simp [hx]
    have HX := Lib.hid hx
    clear hx
    by_cases hy : y = 0
    · have hb2 : (y != 0) = false := by simp [hy]
      have HY := Lib.hid hy
      clear hy
      go_enter Try.func46, Try.ntmps46
      go_wp2
      refine wp_loop_rounds 3 ?_
      rw [rounds_succ]
      go_wp2
      rw [rounds_succ]
      go_wp2
      rw [rounds_succ]
      go_wp2
      go_ret
      exact ⟨ret_int (by rw [HR.out, if_pos HX.out, HY.out]), rfl⟩
    · have hb2 : (y != 0) = true := by simp [hy]
      have HY := Lib.hid hy
      clear hy
      go_enter Try.func46, Try.ntmps46
      go_wp2
      refine wp_loop_rounds 3 ?_
      rw [rounds_succ]
      go_wp2
      rw [rounds_succ]
      go_wp2
      go_ret
      exact ⟨ret_int (by rw [HR.out, if_pos HX.out]), rfl⟩
  · have hb : (x != 0) = true := by simp [hx]
    have HX := Lib.hid hx
    clear hx
    go_enter Try.func46, Try.ntmps46
    go_wp2
    refine wp_loop_rounds 3 ?_
    rw [rounds_succ]
    go_wp2
    go_ret
    exact ⟨ret_int (by rw [HR.out, if_neg HX.out]), rfl⟩

theorem or3_calls (x y z : Int) (g : Nat) (w : World) (c0 : w.cell? ⟨g, 0, none⟩ = some (.int .i64 x)) (c1 : w.cell? ⟨g, 1, none⟩ = some (.int .i64 y)) (c2 : w.cell? ⟨g, 2, none⟩ = some (.int .i64 z)) :
    Calls Try.prog 46 #[.slice (some ⟨g, 0, none⟩) 3 3] w fun e w' => e = .returned (.int .i64 (if x = 0 then (if y = 0 then z else y) else x)) ∧ w' = w := by
  by_cases hx : x = 0
  · by_cases hy : y = 0
    · by_cases hz : z = 0
      · have b1 : (x != 0) = false := by simp [hx]
        have b2 : (y != 0) = false := by simp [hy]
        have b3 : (z != 0) = false := by simp [hz]
        have HR : Hid ((if x = 0 then (if y = 0 then z else y) else x) = 0) := by show _ = _; simp [hx, hy, hz]
        clear hx hy hz
        rw [HR.out]
        go_enter Try.func46, Try.ntmps46
        go_wp2
        refine wp_loop_rounds 4 ?_
        rw [rounds_succ]
        go_wp2
        rw [rounds_succ]
        go_wp2
        rw [rounds_succ]
        go_wp2
        rw [rounds_succ]
        go_wp2
        go_ret
        exact ⟨rfl, rfl⟩
      · have b1 : (x != 0) = false := by simp [hx]
        have b2 : (y != 0) = false := by simp [hy]
        have b3 : (z != 0) = true := by simp [hz]
        have HR : Hid ((if x = 0 then (if y = 0 then z else y) else x) = z) := by show _ = _; simp [hx, hy]
        clear hx hy hz
        rw [HR.out]
        go_enter Try.func46, Try.ntmps46
        go_wp2
        refine wp_loop_rounds 4 ?_
        rw [rounds_succ]
        go_wp2
        rw [rounds_succ]
        go_wp2
        rw [rounds_succ]
        go_wp2
        go_ret
        exact ⟨rfl, rfl⟩
    · have b1 : (x != 0) = false := by simp [hx]
      have b2 : (y != 0) = true := by simp [hy]
      have HR : Hid ((if x = 0 then (if y = 0 then z else y) else x) = y) := by show _ = _; simp [hx, hy]
      clear hx hy
      rw [HR.out]
      go_enter Try.func46, Try.ntmps46
      go_wp2
      refine wp_loop_rounds 4 ?_
      rw [rounds_succ]
      go_wp2
      rw [rounds_succ]
      go_wp2
      go_ret
      exact ⟨rfl, rfl⟩
  · have b1 : (x != 0) = true := by simp [hx]
    have HR : Hid ((if x = 0 then (if y = 0 then z else y) else x) = x) := by show _ = _; simp [hx]
    clear hx
    rw [HR.out]
    go_enter Try.func46, Try.ntmps46
    go_wp2
    refine wp_loop_rounds 4 ?_
    rw [rounds_succ]
    go_wp2
    go_ret
    exact ⟨rfl, rfl⟩
end Go.Proofs.Ytmddlbgdmdepdaa
