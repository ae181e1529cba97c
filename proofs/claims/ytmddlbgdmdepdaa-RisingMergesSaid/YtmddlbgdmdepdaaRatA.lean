/- The contracts of ratio.low, word, May, held, times, compare, Compare and rising.Ratio, by walks. No condition. -/
import Derived.Test.YtmddlbgdmdepdaaKitD
import Derived.Test.YtmddlbgdmdepdaaCmpI
import Derived.Test.YtmddlbgdmdepdaaWinJ
import Derived.Lib.EndianBits
set_option linter.unusedVariables false
set_option linter.unusedSimpArgs false
set_option maxRecDepth 100000
namespace Go.Proofs.Ytmddlbgdmdepdaa
open Go.Maps Go.MapKept Go.RowKit Go.ChangeMaps CK Go.Proofs.YtmddlbgdmdepdaaW.PrintLast

theorem u64_mask32 (x : Int) (h₀ : 0 ≤ x) (h₁ : x < 18446744073709551616) : bits .and .u64 x 4294967295 = x % 4294967296 := bits_mask .u64 64 (by decide) wraps_u64 32 (by decide) x h₀ h₁
theorem u64_or32 (x y : Int) (hy₀ : 0 ≤ y) (hy : y < 4294967296) (hx₀ : 0 ≤ x) (hx : x % 4294967296 = 0) (hx₁ : x < 18446744073709551616) : bits .or .u64 x y = x + y := by
  have h := bits_join .u64 64 (by decide) wraps_u64 32 x y hx₀ hx hx₁ hy₀ hy (by omega)
  exact h
theorem ratlow_calls (a : Int) (w : World) (h₀ : 0 ≤ a) (h₁ : a < 18446744073709551616) :
    Calls Try.prog 73 #[.int .u64 a] w fun e w' => e = .returned (.int .u64 (a % 4294967296)) ∧ w = w' := by
  go_enter Try.func73, Try.ntmps73
  go_wp2
  go_ret
  exact ⟨ret_int (u64_mask32 a h₀ h₁), rfl⟩
theorem word_calls (a : Int) (w : World) (h₁ : a < 9223372036854775808) :
    Calls Try.prog 51 #[.int .i64 a] w fun e w' => e = .returned (.int .u64 (max a 0)) ∧ w = w' := by
  go_enter Try.func51, Try.ntmps51
  go_wp2
  all_goals
    go_ret
    exact ⟨ret_int (by omega), rfl⟩
def ratMay (r : Int × Int) : Bool := decide (0 ≤ r.1) && decide (1 ≤ r.2)
theorem ratmay_calls (n d : Int) (w : World) : Calls Try.prog 72 #[.agg #[.int .i64 n, .int .i64 d]] w fun e w' => e = .returned (.bool (ratMay (n, d))) ∧ Gr w w' := by
  have HG : Hid (Gr w (w.alloc (.cells #[.int .i64 n, .int .i64 d] 39))) := (Gr.refl w).alloc _
  by_cases h : 0 ≤ n
  · have e1 : decide (0 ≤ n) = true := by simpa using h
    have HE : Hid (decide (1 ≤ d) = ratMay (n, d)) := by show _ = _; simp [ratMay, h]
    go_enter Try.func72, Try.ntmps72
    go_wp2
    go_ret
    exact ⟨ret_bool HE.out, HG.out⟩
  · have e1 : decide (0 ≤ n) = false := by simpa using h
    have HE : Hid (false = ratMay (n, d)) := by show _ = _; simp [ratMay, h]
    go_enter Try.func72, Try.ntmps72
    go_wp2
    go_ret
    exact ⟨ret_bool HE.out, HG.out⟩
/-- a fraction, or 0 over 1 -/
def hld (r : Int × Int) : Int × Int := if ratMay r then r else (0, 1)
theorem held_calls (n d : Int) (w : World) : Calls Try.prog 49 #[.agg #[.int .i64 n, .int .i64 d]] w fun e w' => e = .returned (.agg #[.int .i64 (hld (n, d)).1, .int .i64 (hld (n, d)).2]) ∧ Gr w w' := by
  have BK1 : Hid (((w.alloc (.cells #[.int .i64 n, .int .i64 d] 39)).alloc (.cells #[.int .i64 0, .int .i64 0] 39)).heap[w.heap.size]? = some (.cells #[.int .i64 n, .int .i64 d] 39 (0, 0))) := blk_old (blk_new w _) _
  have BK2 : Hid (((w.alloc (.cells #[.int .i64 n, .int .i64 d] 39)).alloc (.cells #[.int .i64 0, .int .i64 0] 39)).heap[w.heap.size + 1]? = some (.cells #[.int .i64 0, .int .i64 0] 39 (0, 0))) := blk_new2 w _ _
  have HG : Hid (Gr w ((w.alloc (.cells #[.int .i64 n, .int .i64 d] 39)).alloc (.cells #[.int .i64 0, .int .i64 0] 39))) := ((Gr.refl w).alloc _).alloc _
  obtain ⟨N, hN⟩ : ∃ N, N = (hld (n, d)).1 := ⟨_, rfl⟩
  obtain ⟨D, hD⟩ : ∃ D, D = (hld (n, d)).2 := ⟨_, rfl⟩
  rw [← hN, ← hD]
  have HN := Lib.hid hN
  have HD := Lib.hid hD
  clear hN hD
  go_enter Try.func49, Try.ntmps49
  go_wp2_with fail
  refine (ratmay_calls n d _).mono ?_
  rintro e w1 ⟨rfl, hg⟩
  replace BK1 := Lib.hid (blk_below BK1.out hg.below (blk_lt BK1.out))
  replace BK2 := Lib.hid (blk_below BK2.out hg.below (blk_lt BK2.out))
  replace HG := Lib.hid (HG.out.trans hg)
  have hs := HG.out.below.size
  have c0 := (blk_cell BK2.out 0).trans rfl
  have c1 := (blk_cell BK2.out 1).trans rfl
  have f0 := blk_free BK2.out 0
  have f1 := blk_free BK2.out 1
  have d0 := (blk_cell BK1.out 0).trans rfl
  have d1 := (blk_cell BK1.out 1).trans rfl
  clear hg
  cases h : ratMay (n, d)
  · have HM := Lib.hid h
    have e1 : N = 0 := by rw [HN.out, hld, h]; rfl
    have e2 : D = 1 := by rw [HD.out, hld, h]; rfl
    clear h
    subst e1 e2
    go_wp2
    refine bodyPost_ret (results_cell_row rfl _ _ (w.heap.size + 1) 39 #[.int .i64 0, .int .i64 1] (0, 0) _ rfl (blk_set (blk_set BK2.out _) _) Try.underlying39 rfl (by kernel_rfl)) rfl ⟨rfl, ?_⟩
    exact (HG.out.setCell (Nat.le_succ _) _).setCell (Nat.le_succ _) _
  · have HM := Lib.hid h
    have e1 : N = n := by rw [HN.out, hld, h]; rfl
    have e2 : D = d := by rw [HD.out, hld, h]; rfl
    clear h
    subst e1 e2
    go_wp2
    refine bodyPost_ret (results_cell_row rfl _ _ (w.heap.size + 1) 39 #[.int .i64 N, .int .i64 D] (0, 0) _ rfl (blk_set (blk_set BK2.out _) _) Try.underlying39 rfl (by kernel_rfl)) rfl ⟨rfl, ?_⟩
    exact (HG.out.setCell (Nat.le_succ _) _).setCell (Nat.le_succ _) _
theorem wrapu (n : Int) : IntKind.u64.wrap n = n % 18446744073709551616 := by simp [IntKind.wrap, IntKind.bits, IntKind.signed]
theorem wrapu_bd (n : Int) : 0 ≤ IntKind.u64.wrap n ∧ IntKind.u64.wrap n < 18446744073709551616 := by rw [wrapu]; omega
theorem mul_bd {x y : Int} (x0 : 0 ≤ x) (x1 : x ≤ 4294967295) (y0 : 0 ≤ y) (y1 : y ≤ 4294967295) : 0 ≤ x * y ∧ x * y ≤ 18446744065119617025 :=
  ⟨Int.mul_nonneg x0 y0, by have := Int.mul_le_mul x1 y1 y0 (by omega); omega⟩
theorem times_hi (a b : Int) (a0 : 0 ≤ a) (a1 : a < 18446744073709551616) (b0 : 0 ≤ b) (b1 : b < 18446744073709551616) :
    IntKind.u64.wrap (IntKind.u64.wrap (IntKind.u64.wrap (a / 4294967296 * (b / 4294967296)) + IntKind.u64.wrap (a / 4294967296 * (b % 4294967296)) / 4294967296) + IntKind.u64.wrap (IntKind.u64.wrap (IntKind.u64.wrap (a % 4294967296 * (b / 4294967296)) + IntKind.u64.wrap (a / 4294967296 * (b % 4294967296)) % 4294967296) + IntKind.u64.wrap (a % 4294967296 * (b % 4294967296)) / 4294967296) / 4294967296) = a * b / 18446744073709551616 ∧
    IntKind.u64.wrap (IntKind.u64.wrap (IntKind.u64.wrap (IntKind.u64.wrap (a % 4294967296 * (b / 4294967296)) + IntKind.u64.wrap (a / 4294967296 * (b % 4294967296)) % 4294967296) + IntKind.u64.wrap (a % 4294967296 * (b % 4294967296)) / 4294967296) * 4294967296) + IntKind.u64.wrap (a % 4294967296 * (b % 4294967296)) % 4294967296 = a * b % 18446744073709551616 := by
  have ea : a = a / 4294967296 * 4294967296 + a % 4294967296 := by omega
  have eb : b = b / 4294967296 * 4294967296 + b % 4294967296 := by omega
  have e : a * b = a / 4294967296 * (b / 4294967296) * 18446744073709551616 + (a % 4294967296 * (b / 4294967296) + a / 4294967296 * (b % 4294967296)) * 4294967296 + a % 4294967296 * (b % 4294967296) := by
    generalize a / 4294967296 = x at *
    generalize a % 4294967296 = y at *
    generalize b / 4294967296 = z at *
    generalize b % 4294967296 = u at *
    subst ea eb
    grind
  have p1 := mul_bd (x := a / 4294967296) (y := b / 4294967296) (by omega) (by omega) (by omega) (by omega)
  have p2 := mul_bd (x := a / 4294967296) (y := b % 4294967296) (by omega) (by omega) (by omega) (by omega)
  have p3 := mul_bd (x := a % 4294967296) (y := b / 4294967296) (by omega) (by omega) (by omega) (by omega)
  have p4 := mul_bd (x := a % 4294967296) (y := b % 4294967296) (by omega) (by omega) (by omega) (by omega)
  rw [e]
  clear e ea eb
  simp only [wrapu]
  generalize a / 4294967296 * (b / 4294967296) = s at *
  generalize a / 4294967296 * (b % 4294967296) = r at *
  generalize a % 4294967296 * (b / 4294967296) = q at *
  generalize a % 4294967296 * (b % 4294967296) = p at *
  omega
theorem times_calls (a b : Int) (w : World) (a0 : 0 ≤ a) (a1 : a < 9223372036854775808) (b0 : 0 ≤ b) (b1 : b < 9223372036854775808) :
    Calls Try.prog 50 #[.int .u64 a, .int .u64 b] w fun e w' => e = .returned (.agg #[.int .u64 (a * b / 18446744073709551616), .int .u64 (a * b % 18446744073709551616)]) ∧ Gr w w' := by
  have HT := Lib.hid (times_hi a b a0 (by omega) b0 (by omega))
  obtain ⟨A, hA⟩ : ∃ A, A = a * b / 18446744073709551616 := ⟨_, rfl⟩
  obtain ⟨B, hB⟩ : ∃ B, B = a * b % 18446744073709551616 := ⟨_, rfl⟩
  rw [← hA, ← hB]
  rw [← hA, ← hB] at HT
  clear hA hB
  have BK2 : Hid ((w.alloc (.cells #[.int .u64 0, .int .u64 0] 94)).heap[w.heap.size]? = some (.cells #[.int .u64 0, .int .u64 0] 94 (0, 0))) := blk_new w _
  have HG : Hid (Gr w (w.alloc (.cells #[.int .u64 0, .int .u64 0] 94))) := (Gr.refl w).alloc _
  go_enter Try.func50, Try.ntmps50
  go_wp2_with fail
  refine (ratlow_calls a _ a0 (by omega)).mono ?_
  rintro e w1 ⟨rfl, rfl⟩
  go_wp2_with fail
  refine (ratlow_calls b _ b0 (by omega)).mono ?_
  rintro e w1 ⟨rfl, rfl⟩
  go_wp2_with fail
  refine (ratlow_calls a _ a0 (by omega)).mono ?_
  rintro e w1 ⟨rfl, rfl⟩
  go_wp2_with fail
  refine (ratlow_calls b _ b0 (by omega)).mono ?_
  rintro e w1 ⟨rfl, rfl⟩
  go_wp2_with fail
  refine (ratlow_calls _ _ (wrapu_bd _).1 (wrapu_bd _).2).mono ?_
  rintro e w1 ⟨rfl, rfl⟩
  go_wp2_with fail
  refine (ratlow_calls _ _ (wrapu_bd _).1 (wrapu_bd _).2).mono ?_
  rintro e w1 ⟨rfl, rfl⟩
  go_wp2_with fail
  refine bodyPost_ret (results_cell_row rfl _ _ w.heap.size 94 _ (0, 0) _ rfl (blk_new w _) Try.underlying94 rfl (by kernel_rfl)) rfl ⟨?_, (Gr.refl w).alloc _⟩
  have z := wrapu_bd (a % 4294967296 * (b % 4294967296))
  rw [u64_or32 _ _ (by omega) (by omega) (wrapu_bd _).1 (by rw [wrapu]; omega) (wrapu_bd _).2, HT.out.1, HT.out.2]
theorem compare64u_calls (x y : Int) (w : World) : Calls Try.prog 74 #[.int .u64 x, .int .u64 y] w fun e w' => e = .returned (.int .i64 (cmpI x y)) ∧ w = w' := by
  have hn : ∀ z : Int, (z != z) = false := fun z => by simp
  have HN : ∀ (z : Int) (w : World), Calls Try.prog 101 #[.int .u64 z] w fun e w' => e = .returned (.bool false) ∧ w = w' := fun z w => by
    have h := hn z
    go_enter Try.func101, Try.ntmps101
    go_wp2
    go_ret
    exact ⟨rfl, rfl⟩
  replace HN := Lib.hid HN
  clear hn
  obtain ⟨r, hr⟩ : ∃ r, r = cmpI x y := ⟨_, rfl⟩
  rw [← hr]
  have HR := Lib.hid hr
  clear hr
  go_enter Try.func74, Try.ntmps74
  go_wp2_with fail
  refine (HN.out x _).mono ?_
  rintro e w1 ⟨rfl, rfl⟩
  go_wp2_with fail
  refine (HN.out y _).mono ?_
  rintro e w1 ⟨rfl, rfl⟩
  by_cases h1 : x < y
  · have d1 : decide (x < y) = true := by simpa using h1
    go_wp2
    go_ret
    exact ⟨ret_int (by rw [HR.out, cmpI, if_pos h1]), rfl⟩
  · have d1 : decide (x < y) = false := by simpa using h1
    by_cases h2 : y < x
    · have d2 : decide (y < x) = true := by simpa using h2
      go_wp2
      go_ret
      exact ⟨ret_int (by rw [HR.out, cmpI, if_neg (by omega), if_pos h2]), rfl⟩
    · have d2 : decide (y < x) = false := by simpa using h2
      go_wp2
      go_ret
      exact ⟨ret_int (by rw [HR.out, cmpI, if_neg (by omega), if_neg (by omega)]), rfl⟩
def lexI (a b c d : Int) : Int := if cmpI a c = 0 then cmpI b d else cmpI a c
theorem longcmp_calls (a b c d : Int) (w : World) : Calls Try.prog 52 #[.agg #[.int .u64 a, .int .u64 b], .agg #[.int .u64 c, .int .u64 d]] w fun e w' => e = .returned (.int .i64 (lexI a b c d)) ∧ Gr w w' := by
  obtain ⟨x, hx⟩ : ∃ x, x = cmpI a c := ⟨_, rfl⟩
  obtain ⟨y, hy⟩ : ∃ y, y = cmpI b d := ⟨_, rfl⟩
  obtain ⟨r, hr⟩ : ∃ r, r = lexI a b c d := ⟨_, rfl⟩
  rw [← hr]
  have HX := Lib.hid hx
  have HY := Lib.hid hy
  have HRV : Hid ((if x = 0 then y else x) = r) := by show _ = _; rw [hr, hx, hy]; rfl
  clear hx hy hr
  have hB1 : Hid (((w.alloc (.cells #[.int .u64 a, .int .u64 b] 94)).alloc (.cells #[.int .u64 c, .int .u64 d] 94)).drew.heap[w.heap.size]? = some (.cells #[.int .u64 a, .int .u64 b] 94 (0, 0))) := blk_old (blk_new w _) _
  have hB2 : Hid (((w.alloc (.cells #[.int .u64 a, .int .u64 b] 94)).alloc (.cells #[.int .u64 c, .int .u64 d] 94)).drew.heap[w.heap.size + 1]? = some (.cells #[.int .u64 c, .int .u64 d] 94 (0, 0))) := blk_new2 _ _ _
  go_enter Try.func52, Try.ntmps52
  go_wp2_with fail
  refine start_ (n := 13) (S := fun w' => w'.cell? ⟨w.heap.size, 0, none⟩ = some (.int .u64 a) ∧ w'.cell? ⟨w.heap.size, 1, none⟩ = some (.int .u64 b) ∧ w'.cell? ⟨w.heap.size + 1, 0, none⟩ = some (.int .u64 c) ∧ w'.cell? ⟨w.heap.size + 1, 1, none⟩ = some (.int .u64 d)) (ds := []) #[false, false, false, false, false, false, false, false, false, false, false, false, false] (by kernel_rfl) rfl rfl ⟨(blk_cell hB1.out 0), (blk_cell hB1.out 1), (blk_cell hB2.out 0), (blk_cell hB2.out 1)⟩ (fun hHeld => ?_)
  refine pure_ (i := 0) (N := some 5) (v := ?_) (a' := ?_) #[true, false, false, false, false, false, false, false, false, false, false, false, false] rfl rfl (by kernel_rfl) (fun _ _ _ h => h) (Or.inl ⟨by rfl, ?_⟩) ?_ ?_
  rotate_left
  · intro w'
    go_simp
    with_reducible rfl
  rotate_left
  · simp only [Act.put, List.setIfInBounds_toArray, List.set_cons_zero, List.set_cons_succ, i64_w, i32_w]
    rfl
  refine pure_ (i := 2) (N := some 7) (v := ?_) (a' := ?_) #[true, false, true, false, false, false, false, false, false, false, false, false, false] rfl rfl (by kernel_rfl) (fun _ _ _ h => h) (Or.inl ⟨by rfl, ?_⟩) ?_ ?_
  rotate_left
  · intro w'
    go_simp
    with_reducible rfl
  rotate_left
  · simp only [Act.put, List.setIfInBounds_toArray, List.set_cons_zero, List.set_cons_succ, i64_w, i32_w]
    rfl
  refine pure_ (i := 5) (N := some 10) (v := ?_) (a' := ?_) #[true, false, true, false, false, true, false, false, false, false, false, false, false] rfl rfl (by kernel_rfl) (fun _ _ _ h => h) (Or.inl ⟨by rfl, ?_⟩) ?_ ?_
  rotate_left
  · intro w'
    go_simp
    with_reducible rfl
  rotate_left
  · simp only [Act.put, List.setIfInBounds_toArray, List.set_cons_zero, List.set_cons_succ, i64_w, i32_w]
    rfl
  refine pure_ (i := 7) (N := some 12) (v := ?_) (a' := ?_) #[true, false, true, false, false, true, false, true, false, false, false, false, false] rfl rfl (by kernel_rfl) (fun _ _ _ h => h) (Or.inl ⟨by rfl, ?_⟩) ?_ ?_
  rotate_left
  · intro w'
    go_simp
    with_reducible rfl
  rotate_left
  · simp only [Act.put, List.setIfInBounds_toArray, List.set_cons_zero, List.set_cons_succ, i64_w, i32_w]
    rfl
  refine take_ (i := 1) (N := some 6) (v := ?_) (a' := ?_) #[true, true, true, false, false, true, false, true, false, false, false, false, false] rfl rfl (by kernel_rfl) (fun _ _ _ h => h) (Or.inl ⟨by rfl, ?_⟩) hHeld ?_ ?_
  rotate_left
  · rintro w' ⟨s0, s1, s2, s3⟩
    go_simp
    with_reducible rfl
  rotate_left
  · simp only [Act.put, List.setIfInBounds_toArray, List.set_cons_zero, List.set_cons_succ, i64_w, i32_w]
    rfl
  refine take_ (i := 3) (N := some 8) (v := ?_) (a' := ?_) #[true, true, true, true, false, true, false, true, false, false, false, false, false] rfl rfl (by kernel_rfl) (fun _ _ _ h => h) (Or.inl ⟨by rfl, ?_⟩) hHeld ?_ ?_
  rotate_left
  · rintro w' ⟨s0, s1, s2, s3⟩
    go_simp
    with_reducible rfl
  rotate_left
  · simp only [Act.put, List.setIfInBounds_toArray, List.set_cons_zero, List.set_cons_succ, i64_w, i32_w]
    rfl
  refine take_ (i := 6) (N := some 11) (v := ?_) (a' := ?_) #[true, true, true, true, false, true, true, true, false, false, false, false, false] rfl rfl (by kernel_rfl) (fun _ _ _ h => h) (Or.inl ⟨by rfl, ?_⟩) hHeld ?_ ?_
  rotate_left
  · rintro w' ⟨s0, s1, s2, s3⟩
    go_simp
    with_reducible rfl
  rotate_left
  · simp only [Act.put, List.setIfInBounds_toArray, List.set_cons_zero, List.set_cons_succ, i64_w, i32_w]
    rfl
  refine take_ (i := 8) (N := some 13) (v := ?_) (a' := ?_) #[true, true, true, true, false, true, true, true, true, false, false, false, false] rfl rfl (by kernel_rfl) (fun _ _ _ h => h) (Or.inl ⟨by rfl, ?_⟩) hHeld ?_ ?_
  rotate_left
  · rintro w' ⟨s0, s1, s2, s3⟩
    go_simp
    with_reducible rfl
  rotate_left
  · simp only [Act.put, List.setIfInBounds_toArray, List.set_cons_zero, List.set_cons_succ, i64_w, i32_w]
    rfl
  refine one_ (i := 4) (N := some 9) #[true, true, true, true, true, true, true, true, true, false, false, false, false] rfl rfl (by kernel_rfl) (by decide) (fun K hK => ?_)
  refine goes_ Try.func74 (by kernel_rfl) rfl #[.int .u64 a, .int .u64 c] (by rfl) rfl rfl (by (try simp only [List.map_toArray, List.map_cons, List.map_nil]); first | done | rfl) ?_
  with_reducible refine (compare64u_calls _ _ _).mono ?_
  rintro e w3 ⟨rfl, rfl⟩
  refine ⟨_, rfl, ?_⟩
  rw [← HX.out]
  refine hK.out _ _ ⟨(blk_cell hB1.out 0), (blk_cell hB1.out 1), (blk_cell hB2.out 0), (blk_cell hB2.out 1)⟩ (fun hHeld => ?_)
  clear hK K
  refine norm_ (a' := ?_) ?_ ?_
  rotate_left
  · show Act.put _ (some 9) _ = _
    simp only [Act.put, List.setIfInBounds_toArray, List.set_cons_zero, List.set_cons_succ, i64_w, i32_w]
    rfl
  refine one_ (i := 9) (N := some 14) #[true, true, true, true, true, true, true, true, true, true, false, false, false] rfl rfl (by kernel_rfl) (by decide) (fun K hK => ?_)
  refine goes_ Try.func74 (by kernel_rfl) rfl #[.int .u64 b, .int .u64 d] (by rfl) rfl rfl (by (try simp only [List.map_toArray, List.map_cons, List.map_nil]); first | done | rfl) ?_
  with_reducible refine (compare64u_calls _ _ _).mono ?_
  rintro e w4 ⟨rfl, rfl⟩
  refine ⟨_, rfl, ?_⟩
  rw [← HY.out]
  refine hK.out _ _ ⟨(blk_cell hB1.out 0), (blk_cell hB1.out 1), (blk_cell hB2.out 0), (blk_cell hB2.out 1)⟩ (fun hHeld => ?_)
  clear hK K
  refine norm_ (a' := ?_) ?_ ?_
  rotate_left
  · show Act.put _ (some 14) _ = _
    simp only [Act.put, List.setIfInBounds_toArray, List.set_cons_zero, List.set_cons_succ, i64_w, i32_w]
    rfl
  refine one_ (i := 10) (N := some 15) #[true, true, true, true, true, true, true, true, true, true, true, false, false] rfl rfl (by kernel_rfl) (by decide) (fun K hK => ?_)
  refine value_ (w1 := ?_) (v := ?_) (by rfl) rfl ?_ ?_
  rotate_left 2
  · go_simp
    constructor
    · rfl
    · rfl
  refine hK.out _ _ ⟨(by simp [go_sem]), (by simp [go_sem]), (by simp [go_sem]), (by simp [go_sem])⟩ (fun hHeld => ?_)
  clear hK K
  refine norm_ (a' := ?_) ?_ ?_
  rotate_left
  · show Act.put _ (some 15) _ = _
    simp only [Act.put, List.setIfInBounds_toArray, List.set_cons_zero, List.set_cons_succ, i64_w, i32_w]
    rfl
  refine one_ (i := 11) (N := some 16) #[true, true, true, true, true, true, true, true, true, true, true, true, false] rfl rfl (by kernel_rfl) (by decide) (fun K hK => ?_)
  refine goes_ Try.func46 (by kernel_rfl) rfl #[.slice (some ⟨w.heap.size + 1 + 1, 0, none⟩) 2 2] (by rfl) rfl rfl (by (try simp only [List.map_toArray, List.map_cons, List.map_nil]); first | done | rfl) ?_
  with_reducible refine (or2_calls x y (w.heap.size + 1 + 1) _ (by simp [go_sem]) (by simp [go_sem])).mono ?_
  rintro e w5 ⟨rfl, rfl⟩
  refine ⟨_, rfl, ?_⟩
  rw [HRV.out]
  refine hK.out _ _ ⟨(by simp [go_sem]), (by simp [go_sem]), (by simp [go_sem]), (by simp [go_sem])⟩ (fun hHeld => ?_)
  clear hK K
  refine norm_ (a' := ?_) ?_ ?_
  rotate_left
  · show Act.put _ (some 16) _ = _
    simp only [Act.put, List.setIfInBounds_toArray, List.set_cons_zero, List.set_cons_succ, i64_w, i32_w]
    rfl
  refine pure_ (i := 12) (N := some 4) (v := ?_) (a' := ?_) #[true, true, true, true, true, true, true, true, true, true, true, true, true] rfl rfl (by kernel_rfl) (fun _ _ _ h => h) (Or.inl ⟨by rfl, ?_⟩) ?_ ?_
  rotate_left
  · intro w'
    go_simp
    with_reducible rfl
  rotate_left
  · simp only [Act.put, List.setIfInBounds_toArray, List.set_cons_zero, List.set_cons_succ, i64_w, i32_w]
    rfl
  refine done_ (by kernel_rfl) ?_
  go_wp2
  go_ret
  exact ⟨rfl, ((((Gr.refl w).alloc _).alloc _).drew).alloc _⟩
/-- two fractions, exactly -/
def cmpR (r s : Int × Int) : Int := cmpI ((hld r).1 * (hld s).2) ((hld s).1 * (hld r).2)
theorem lex_mul (x y : Int) : lexI (x / 18446744073709551616) (x % 18446744073709551616) (y / 18446744073709551616) (y % 18446744073709551616) = cmpI x y := by
  unfold lexI cmpI
  by_cases h1 : x / 18446744073709551616 < y / 18446744073709551616
  · rw [if_pos h1, if_neg (by omega), if_pos (by omega)]
  · rw [if_neg h1]
    by_cases h2 : y / 18446744073709551616 < x / 18446744073709551616
    · rw [if_pos h2, if_neg (by omega), if_neg (by omega), if_pos (by omega)]
    · rw [if_neg h2, if_pos rfl]
      by_cases h3 : x < y
      · rw [if_pos h3, if_pos (by omega)]
      · rw [if_neg h3, if_neg (by omega)]
        by_cases h4 : y < x
        · rw [if_pos h4, if_pos (by omega)]
        · rw [if_neg h4, if_neg (by omega)]
theorem hld_bd {n d : Int} (h1 : -9223372036854775808 ≤ n ∧ n ≤ 9223372036854775807) (h2 : -9223372036854775808 ≤ d ∧ d ≤ 9223372036854775807) : 0 ≤ (hld (n, d)).1 ∧ (hld (n, d)).1 < 9223372036854775808 ∧ 1 ≤ (hld (n, d)).2 ∧ (hld (n, d)).2 < 9223372036854775808 := by
  unfold hld ratMay
  simp only [Bool.and_eq_true, decide_eq_true_eq]
  split
  · rename_i h; exact ⟨h.1, by omega, h.2, by omega⟩
  · omega
theorem compareR_calls (an ad bn bd : Int) (w : World) (h1 : -9223372036854775808 ≤ an ∧ an ≤ 9223372036854775807) (h2 : -9223372036854775808 ≤ ad ∧ ad ≤ 9223372036854775807) (h3 : -9223372036854775808 ≤ bn ∧ bn ≤ 9223372036854775807) (h4 : -9223372036854775808 ≤ bd ∧ bd ≤ 9223372036854775807) :
    Calls Try.prog 20 #[.agg #[.int .i64 an, .int .i64 ad], .agg #[.int .i64 bn, .int .i64 bd]] w fun e w' => e = .returned (.int .i64 (cmpR (an, ad) (bn, bd))) ∧ Gr w w' := by
  have ha := hld_bd h1 h2
  have hb := hld_bd h3 h4
  clear h1 h2 h3 h4
  obtain ⟨R, hR⟩ : ∃ R, R = cmpR (an, ad) (bn, bd) := ⟨_, rfl⟩
  rw [← hR]
  rw [cmpR, ← lex_mul] at hR
  obtain ⟨N, hN⟩ : ∃ N, (hld (an, ad)).1 = N := ⟨_, rfl⟩
  obtain ⟨D, hD⟩ : ∃ D, (hld (an, ad)).2 = D := ⟨_, rfl⟩
  obtain ⟨M, hM⟩ : ∃ M, (hld (bn, bd)).1 = M := ⟨_, rfl⟩
  obtain ⟨E, hE⟩ : ∃ E, (hld (bn, bd)).2 = E := ⟨_, rfl⟩
  rw [hN, hD] at ha
  rw [hM, hE] at hb
  rw [hN, hD, hM, hE] at hR
  have HR := Lib.hid hR
  have HN := Lib.hid hN
  have HD := Lib.hid hD
  have HM := Lib.hid hM
  have HE := Lib.hid hE
  clear hR hN hD hM hE
  have hB1 : Hid (((w.alloc (.cells #[.int .i64 an, .int .i64 ad] 39)).alloc (.cells #[.int .i64 bn, .int .i64 bd] 39)).drew.heap[w.heap.size]? = some (.cells #[.int .i64 an, .int .i64 ad] 39 (0, 0))) := blk_old (blk_new w _) _
  have hB2 : Hid (((w.alloc (.cells #[.int .i64 an, .int .i64 ad] 39)).alloc (.cells #[.int .i64 bn, .int .i64 bd] 39)).drew.heap[w.heap.size + 1]? = some (.cells #[.int .i64 bn, .int .i64 bd] 39 (0, 0))) := blk_new2 _ _ _
  have HG : Hid (Gr w ((w.alloc (.cells #[.int .i64 an, .int .i64 ad] 39)).alloc (.cells #[.int .i64 bn, .int .i64 bd] 39)).drew) := (((Gr.refl w).alloc _).alloc _).drew
  go_enter Try.func20, Try.ntmps20
  go_wp2_with fail
  refine start_ (n := 6) (S := fun w' => w'.cell? ⟨w.heap.size, 0, none⟩ = some (.int .i64 an) ∧ w'.cell? ⟨w.heap.size, 1, none⟩ = some (.int .i64 ad) ∧ w'.cell? ⟨w.heap.size + 1, 0, none⟩ = some (.int .i64 bn) ∧ w'.cell? ⟨w.heap.size + 1, 1, none⟩ = some (.int .i64 bd)) (ds := [4, 5]) #[false, false, false, false, false, false] (by kernel_rfl) rfl rfl ⟨(blk_cell hB1.out 0), (blk_cell hB1.out 1), (blk_cell hB2.out 0), (blk_cell hB2.out 1)⟩ (fun hHeld => ?_)
  refine take_ (i := 0) (N := some 5) (v := ?_) (a' := ?_) #[true, false, false, false, false, false] rfl rfl (by kernel_rfl) (fun _ _ _ h => h) (Or.inl ⟨by rfl, ?_⟩) hHeld ?_ ?_
  rotate_left
  · rintro w' ⟨s0, s1, s2, s3⟩
    go_simp
    with_reducible rfl
  rotate_left
  · simp only [Act.put, List.setIfInBounds_toArray, List.set_cons_zero, List.set_cons_succ, i64_w, i32_w]
    rfl
  refine take_ (i := 2) (N := some 7) (v := ?_) (a' := ?_) #[true, false, true, false, false, false] rfl rfl (by kernel_rfl) (fun _ _ _ h => h) (Or.inl ⟨by rfl, ?_⟩) hHeld ?_ ?_
  rotate_left
  · rintro w' ⟨s0, s1, s2, s3⟩
    go_simp
    with_reducible rfl
  rotate_left
  · simp only [Act.put, List.setIfInBounds_toArray, List.set_cons_zero, List.set_cons_succ, i64_w, i32_w]
    rfl
  refine one_ (i := 1) (N := some 6) #[true, true, true, false, false, false] rfl rfl (by kernel_rfl) (by decide) (fun K hK => ?_)
  refine goes_ Try.func49 (by kernel_rfl) rfl #[.agg #[.int .i64 an, .int .i64 ad]] (by rfl) rfl rfl (by (try simp only [List.map_toArray, List.map_cons, List.map_nil]); first | done | rfl) ?_
  with_reducible refine (held_calls _ _ _).mono ?_
  rintro e w3 ⟨rfl, hg⟩
  refine ⟨_, rfl, ?_⟩
  rw [HN.out, HD.out]
  replace hB1 := Lib.hid (blk_below hB1.out hg.below (blk_lt hB1.out))
  replace hB2 := Lib.hid (blk_below hB2.out hg.below (blk_lt hB2.out))
  replace HG := Lib.hid (HG.out.trans hg)
  clear hg
  refine hK.out _ _ ⟨(blk_cell hB1.out 0), (blk_cell hB1.out 1), (blk_cell hB2.out 0), (blk_cell hB2.out 1)⟩ (fun hHeld => ?_)
  clear hK K
  refine norm_ (a' := ?_) ?_ ?_
  rotate_left
  · show Act.put _ (some 6) _ = _
    simp only [Act.put, List.setIfInBounds_toArray, List.set_cons_zero, List.set_cons_succ, i64_w, i32_w]
    rfl
  refine one_ (i := 3) (N := some 8) #[true, true, true, true, false, false] rfl rfl (by kernel_rfl) (by decide) (fun K hK => ?_)
  refine goes_ Try.func49 (by kernel_rfl) rfl #[.agg #[.int .i64 bn, .int .i64 bd]] (by rfl) rfl rfl (by (try simp only [List.map_toArray, List.map_cons, List.map_nil]); first | done | rfl) ?_
  with_reducible refine (held_calls _ _ _).mono ?_
  rintro e w4 ⟨rfl, hg⟩
  refine ⟨_, rfl, ?_⟩
  rw [HM.out, HE.out]
  replace hB1 := Lib.hid (blk_below hB1.out hg.below (blk_lt hB1.out))
  replace hB2 := Lib.hid (blk_below hB2.out hg.below (blk_lt hB2.out))
  replace HG := Lib.hid (HG.out.trans hg)
  clear hg
  have f0 := blk_free hB1.out 0
  have f1 := blk_free hB1.out 1
  have f2 := blk_free hB2.out 0
  have f3 := blk_free hB2.out 1
  have k0 := (blk_cell hB1.out 0).trans rfl
  have k1 := (blk_cell hB1.out 1).trans rfl
  have k2 := (blk_cell hB2.out 0).trans rfl
  have k3 := (blk_cell hB2.out 1).trans rfl
  refine hK.out _ _ ⟨(blk_cell hB1.out 0), (blk_cell hB1.out 1), (blk_cell hB2.out 0), (blk_cell hB2.out 1)⟩ (fun hHeld => ?_)
  clear hK K
  refine norm_ (a' := ?_) ?_ ?_
  rotate_left
  · show Act.put _ (some 8) _ = _
    simp only [Act.put, List.setIfInBounds_toArray, List.set_cons_zero, List.set_cons_succ, i64_w, i32_w]
    rfl
  refine last_ (i := 4) (N := none) #[true, true, true, true, true, false] rfl rfl (by kernel_rfl) (by decide) (fun K hK => ?_)
  refine skip_ (w1 := ?_) (by rfl) rfl ?_ ?_
  rotate_left
  · go_simp
    rfl
  refine hK.out _ _ ?_
  clear hK K
  refine last_ (i := 5) (N := none) #[true, true, true, true, true, true] rfl rfl (by kernel_rfl) (by decide) (fun K hK => ?_)
  refine skip_ (w1 := ?_) (by rfl) rfl ?_ ?_
  rotate_left
  · go_simp
    rfl
  refine hK.out _ _ ?_
  clear hK K
  refine done_ (by kernel_rfl) ?_
  refine name_w (fun w' => (w'.drew.heap[w.heap.size]? = some (.cells #[.int .i64 N, .int .i64 D] 39 (0, 0)) ∧ w'.drew.heap[w.heap.size + 1]? = some (.cells #[.int .i64 M, .int .i64 E] 39 (0, 0))) ∧ Gr w w'.drew) ⟨⟨?_, ?_⟩, ?_⟩ ?_
  · exact blk_ne (blk_ne (blk_set (blk_set hB1.out _) _) (by simp) _) (by simp) _
  · exact blk_set (blk_set (blk_ne (blk_ne hB2.out (by simp) _) (by simp) _) _) _
  · exact ((((HG.out.setCell (Nat.le_refl _) _).setCell (Nat.le_refl _) _).setCell (Nat.le_succ _) _).setCell (Nat.le_succ _) _).drew
  rename_i K0 Q0 _ _ _
  clear hHeld k0 k1 k2 k3 f0 f1 f2 f3 hB1 hB2 HG
  rintro w5 ⟨⟨hB1, hB2⟩, HG⟩
  replace hB1 := Lib.hid hB1
  replace hB2 := Lib.hid hB2
  replace HG := Lib.hid HG
  obtain ⟨hN0, hN1, hD0, hD1⟩ := ha
  obtain ⟨hM0, hM1, hE0, hE1⟩ := hb
  have mN : max N 0 = N := by omega
  have mE : max E 0 = E := by omega
  have mM : max M 0 = M := by omega
  have mD : max D 0 = D := by omega
  replace mN := Lib.hid mN
  replace mE := Lib.hid mE
  replace mM := Lib.hid mM
  replace mD := Lib.hid mD
  go_wp2_with fail
  refine start_ (n := 16) (S := fun w' => w'.cell? ⟨w.heap.size, 0, none⟩ = some (.int .i64 N) ∧ w'.cell? ⟨w.heap.size, 1, none⟩ = some (.int .i64 D) ∧ w'.cell? ⟨w.heap.size + 1, 0, none⟩ = some (.int .i64 M) ∧ w'.cell? ⟨w.heap.size + 1, 1, none⟩ = some (.int .i64 E)) (ds := []) #[false, false, false, false, false, false, false, false, false, false, false, false, false, false, false, false] (by kernel_rfl) rfl rfl ⟨(blk_cell hB1.out 0), (blk_cell hB1.out 1), (blk_cell hB2.out 0), (blk_cell hB2.out 1)⟩ (fun hHeld => ?_)
  refine pure_ (i := 0) (N := some 9) (v := ?_) (a' := ?_) #[true, false, false, false, false, false, false, false, false, false, false, false, false, false, false, false] rfl rfl (by kernel_rfl) (fun _ _ _ h => h) (Or.inl ⟨by rfl, ?_⟩) ?_ ?_
  rotate_left
  · intro w'
    go_simp
    with_reducible rfl
  rotate_left
  · simp only [Act.put, List.setIfInBounds_toArray, List.set_cons_zero, List.set_cons_succ, i64_w, i32_w]
    rfl
  refine pure_ (i := 3) (N := some 12) (v := ?_) (a' := ?_) #[true, false, false, true, false, false, false, false, false, false, false, false, false, false, false, false] rfl rfl (by kernel_rfl) (fun _ _ _ h => h) (Or.inl ⟨by rfl, ?_⟩) ?_ ?_
  rotate_left
  · intro w'
    go_simp
    with_reducible rfl
  rotate_left
  · simp only [Act.put, List.setIfInBounds_toArray, List.set_cons_zero, List.set_cons_succ, i64_w, i32_w]
    rfl
  refine pure_ (i := 7) (N := some 16) (v := ?_) (a' := ?_) #[true, false, false, true, false, false, false, true, false, false, false, false, false, false, false, false] rfl rfl (by kernel_rfl) (fun _ _ _ h => h) (Or.inl ⟨by rfl, ?_⟩) ?_ ?_
  rotate_left
  · intro w'
    go_simp
    with_reducible rfl
  rotate_left
  · simp only [Act.put, List.setIfInBounds_toArray, List.set_cons_zero, List.set_cons_succ, i64_w, i32_w]
    rfl
  refine pure_ (i := 10) (N := some 19) (v := ?_) (a' := ?_) #[true, false, false, true, false, false, false, true, false, false, true, false, false, false, false, false] rfl rfl (by kernel_rfl) (fun _ _ _ h => h) (Or.inl ⟨by rfl, ?_⟩) ?_ ?_
  rotate_left
  · intro w'
    go_simp
    with_reducible rfl
  rotate_left
  · simp only [Act.put, List.setIfInBounds_toArray, List.set_cons_zero, List.set_cons_succ, i64_w, i32_w]
    rfl
  refine take_ (i := 1) (N := some 10) (v := ?_) (a' := ?_) #[true, true, false, true, false, false, false, true, false, false, true, false, false, false, false, false] rfl rfl (by kernel_rfl) (fun _ _ _ h => h) (Or.inl ⟨by rfl, ?_⟩) hHeld ?_ ?_
  rotate_left
  · rintro w' ⟨s0, s1, s2, s3⟩
    go_simp
    with_reducible rfl
  rotate_left
  · simp only [Act.put, List.setIfInBounds_toArray, List.set_cons_zero, List.set_cons_succ, i64_w, i32_w]
    rfl
  refine take_ (i := 4) (N := some 13) (v := ?_) (a' := ?_) #[true, true, false, true, true, false, false, true, false, false, true, false, false, false, false, false] rfl rfl (by kernel_rfl) (fun _ _ _ h => h) (Or.inl ⟨by rfl, ?_⟩) hHeld ?_ ?_
  rotate_left
  · rintro w' ⟨s0, s1, s2, s3⟩
    go_simp
    with_reducible rfl
  rotate_left
  · simp only [Act.put, List.setIfInBounds_toArray, List.set_cons_zero, List.set_cons_succ, i64_w, i32_w]
    rfl
  refine take_ (i := 8) (N := some 17) (v := ?_) (a' := ?_) #[true, true, false, true, true, false, false, true, true, false, true, false, false, false, false, false] rfl rfl (by kernel_rfl) (fun _ _ _ h => h) (Or.inl ⟨by rfl, ?_⟩) hHeld ?_ ?_
  rotate_left
  · rintro w' ⟨s0, s1, s2, s3⟩
    go_simp
    with_reducible rfl
  rotate_left
  · simp only [Act.put, List.setIfInBounds_toArray, List.set_cons_zero, List.set_cons_succ, i64_w, i32_w]
    rfl
  refine take_ (i := 11) (N := some 20) (v := ?_) (a' := ?_) #[true, true, false, true, true, false, false, true, true, false, true, true, false, false, false, false] rfl rfl (by kernel_rfl) (fun _ _ _ h => h) (Or.inl ⟨by rfl, ?_⟩) hHeld ?_ ?_
  rotate_left
  · rintro w' ⟨s0, s1, s2, s3⟩
    go_simp
    with_reducible rfl
  rotate_left
  · simp only [Act.put, List.setIfInBounds_toArray, List.set_cons_zero, List.set_cons_succ, i64_w, i32_w]
    rfl
  refine one_ (i := 2) (N := some 11) #[true, true, true, true, true, false, false, true, true, false, true, true, false, false, false, false] rfl rfl (by kernel_rfl) (by decide) (fun K hK => ?_)
  refine goes_ Try.func51 (by kernel_rfl) rfl #[.int .i64 N] (by rfl) rfl rfl (by (try simp only [List.map_toArray, List.map_cons, List.map_nil]); first | done | rfl) ?_
  with_reducible refine (word_calls _ _ (by omega)).mono ?_
  rintro e w6 ⟨rfl, rfl⟩
  refine ⟨_, rfl, ?_⟩
  rw [mN.out]
  refine hK.out _ _ ⟨(blk_cell hB1.out 0), (blk_cell hB1.out 1), (blk_cell hB2.out 0), (blk_cell hB2.out 1)⟩ (fun hHeld => ?_)
  clear hK K
  refine norm_ (a' := ?_) ?_ ?_
  rotate_left
  · show Act.put _ (some 11) _ = _
    simp only [Act.put, List.setIfInBounds_toArray, List.set_cons_zero, List.set_cons_succ, i64_w, i32_w]
    rfl
  refine one_ (i := 5) (N := some 14) #[true, true, true, true, true, true, false, true, true, false, true, true, false, false, false, false] rfl rfl (by kernel_rfl) (by decide) (fun K hK => ?_)
  refine goes_ Try.func51 (by kernel_rfl) rfl #[.int .i64 E] (by rfl) rfl rfl (by (try simp only [List.map_toArray, List.map_cons, List.map_nil]); first | done | rfl) ?_
  with_reducible refine (word_calls _ _ (by omega)).mono ?_
  rintro e w6 ⟨rfl, rfl⟩
  refine ⟨_, rfl, ?_⟩
  rw [mE.out]
  refine hK.out _ _ ⟨(blk_cell hB1.out 0), (blk_cell hB1.out 1), (blk_cell hB2.out 0), (blk_cell hB2.out 1)⟩ (fun hHeld => ?_)
  clear hK K
  refine norm_ (a' := ?_) ?_ ?_
  rotate_left
  · show Act.put _ (some 14) _ = _
    simp only [Act.put, List.setIfInBounds_toArray, List.set_cons_zero, List.set_cons_succ, i64_w, i32_w]
    rfl
  refine one_ (i := 6) (N := some 15) #[true, true, true, true, true, true, true, true, true, false, true, true, false, false, false, false] rfl rfl (by kernel_rfl) (by decide) (fun K hK => ?_)
  refine goes_ Try.func50 (by kernel_rfl) rfl #[.int .u64 N, .int .u64 E] (by rfl) rfl rfl (by (try simp only [List.map_toArray, List.map_cons, List.map_nil]); first | done | rfl) ?_
  with_reducible refine (times_calls _ _ _ hN0 hN1 (by omega) hE1).mono ?_
  rintro e w7 ⟨rfl, hg⟩
  refine ⟨_, rfl, ?_⟩
  replace hB1 := Lib.hid (blk_below hB1.out hg.below (blk_lt hB1.out))
  replace hB2 := Lib.hid (blk_below hB2.out hg.below (blk_lt hB2.out))
  replace HG := Lib.hid (HG.out.trans hg)
  clear hg
  refine hK.out _ _ ⟨(blk_cell hB1.out 0), (blk_cell hB1.out 1), (blk_cell hB2.out 0), (blk_cell hB2.out 1)⟩ (fun hHeld => ?_)
  clear hK K
  refine norm_ (a' := ?_) ?_ ?_
  rotate_left
  · show Act.put _ (some 15) _ = _
    simp only [Act.put, List.setIfInBounds_toArray, List.set_cons_zero, List.set_cons_succ, i64_w, i32_w]
    rfl
  refine one_ (i := 9) (N := some 18) #[true, true, true, true, true, true, true, true, true, true, true, true, false, false, false, false] rfl rfl (by kernel_rfl) (by decide) (fun K hK => ?_)
  refine goes_ Try.func51 (by kernel_rfl) rfl #[.int .i64 M] (by rfl) rfl rfl (by (try simp only [List.map_toArray, List.map_cons, List.map_nil]); first | done | rfl) ?_
  with_reducible refine (word_calls _ _ (by omega)).mono ?_
  rintro e w6 ⟨rfl, rfl⟩
  refine ⟨_, rfl, ?_⟩
  rw [mM.out]
  refine hK.out _ _ ⟨(blk_cell hB1.out 0), (blk_cell hB1.out 1), (blk_cell hB2.out 0), (blk_cell hB2.out 1)⟩ (fun hHeld => ?_)
  clear hK K
  refine norm_ (a' := ?_) ?_ ?_
  rotate_left
  · show Act.put _ (some 18) _ = _
    simp only [Act.put, List.setIfInBounds_toArray, List.set_cons_zero, List.set_cons_succ, i64_w, i32_w]
    rfl
  refine one_ (i := 12) (N := some 21) #[true, true, true, true, true, true, true, true, true, true, true, true, true, false, false, false] rfl rfl (by kernel_rfl) (by decide) (fun K hK => ?_)
  refine goes_ Try.func51 (by kernel_rfl) rfl #[.int .i64 D] (by rfl) rfl rfl (by (try simp only [List.map_toArray, List.map_cons, List.map_nil]); first | done | rfl) ?_
  with_reducible refine (word_calls _ _ (by omega)).mono ?_
  rintro e w6 ⟨rfl, rfl⟩
  refine ⟨_, rfl, ?_⟩
  rw [mD.out]
  refine hK.out _ _ ⟨(blk_cell hB1.out 0), (blk_cell hB1.out 1), (blk_cell hB2.out 0), (blk_cell hB2.out 1)⟩ (fun hHeld => ?_)
  clear hK K
  refine norm_ (a' := ?_) ?_ ?_
  rotate_left
  · show Act.put _ (some 21) _ = _
    simp only [Act.put, List.setIfInBounds_toArray, List.set_cons_zero, List.set_cons_succ, i64_w, i32_w]
    rfl
  refine one_ (i := 13) (N := some 22) #[true, true, true, true, true, true, true, true, true, true, true, true, true, true, false, false] rfl rfl (by kernel_rfl) (by decide) (fun K hK => ?_)
  refine goes_ Try.func50 (by kernel_rfl) rfl #[.int .u64 M, .int .u64 D] (by rfl) rfl rfl (by (try simp only [List.map_toArray, List.map_cons, List.map_nil]); first | done | rfl) ?_
  with_reducible refine (times_calls _ _ _ hM0 hM1 (by omega) hD1).mono ?_
  rintro e w8 ⟨rfl, hg⟩
  refine ⟨_, rfl, ?_⟩
  replace hB1 := Lib.hid (blk_below hB1.out hg.below (blk_lt hB1.out))
  replace hB2 := Lib.hid (blk_below hB2.out hg.below (blk_lt hB2.out))
  replace HG := Lib.hid (HG.out.trans hg)
  clear hg
  refine hK.out _ _ ⟨(blk_cell hB1.out 0), (blk_cell hB1.out 1), (blk_cell hB2.out 0), (blk_cell hB2.out 1)⟩ (fun hHeld => ?_)
  clear hK K
  refine norm_ (a' := ?_) ?_ ?_
  rotate_left
  · show Act.put _ (some 22) _ = _
    simp only [Act.put, List.setIfInBounds_toArray, List.set_cons_zero, List.set_cons_succ, i64_w, i32_w]
    rfl
  refine one_ (i := 14) (N := some 23) #[true, true, true, true, true, true, true, true, true, true, true, true, true, true, true, false] rfl rfl (by kernel_rfl) (by decide) (fun K hK => ?_)
  refine goes_ Try.func52 (by kernel_rfl) rfl #[.agg #[.int .u64 (N * E / 18446744073709551616), .int .u64 (N * E % 18446744073709551616)], .agg #[.int .u64 (M * D / 18446744073709551616), .int .u64 (M * D % 18446744073709551616)]] (by rfl) rfl rfl (by (try simp only [List.map_toArray, List.map_cons, List.map_nil]); first | done | rfl) ?_
  with_reducible refine (longcmp_calls _ _ _ _ _).mono ?_
  rintro e w9 ⟨rfl, hg⟩
  refine ⟨_, rfl, ?_⟩
  rw [← HR.out]
  replace hB1 := Lib.hid (blk_below hB1.out hg.below (blk_lt hB1.out))
  replace hB2 := Lib.hid (blk_below hB2.out hg.below (blk_lt hB2.out))
  replace HG := Lib.hid (HG.out.trans hg)
  clear hg
  refine hK.out _ _ ⟨(blk_cell hB1.out 0), (blk_cell hB1.out 1), (blk_cell hB2.out 0), (blk_cell hB2.out 1)⟩ (fun hHeld => ?_)
  clear hK K
  refine norm_ (a' := ?_) ?_ ?_
  rotate_left
  · show Act.put _ (some 23) _ = _
    simp only [Act.put, List.setIfInBounds_toArray, List.set_cons_zero, List.set_cons_succ, i64_w, i32_w]
    rfl
  refine pure_ (i := 15) (N := some 4) (v := ?_) (a' := ?_) #[true, true, true, true, true, true, true, true, true, true, true, true, true, true, true, true] rfl rfl (by kernel_rfl) (fun _ _ _ h => h) (Or.inl ⟨by rfl, ?_⟩) ?_ ?_
  rotate_left
  · intro w'
    go_simp
    with_reducible rfl
  rotate_left
  · simp only [Act.put, List.setIfInBounds_toArray, List.set_cons_zero, List.set_cons_succ, i64_w, i32_w]
    rfl
  refine done_ (by kernel_rfl) ?_
  go_wp2
  go_ret
  exact ⟨rfl, HG.out⟩
end Go.Proofs.Ytmddlbgdmdepdaa
