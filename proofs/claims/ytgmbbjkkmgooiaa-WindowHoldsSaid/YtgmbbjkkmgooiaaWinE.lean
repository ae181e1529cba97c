/- WindowHolds: the law's function returns true, by a walk. No condition. -/
import Derived.Test.YtgmbbjkkmgooiaaWinD
set_option linter.unusedVariables false
set_option linter.unusedSimpArgs false
namespace Go.Proofs.Ytgmbbjkkmgooiaa
open Go.Maps Go.MapKept Go.RowKit Go.ChangeMaps CK Go.Proofs.YtgmbbjkkmgooiaaW.PrintLast

theorem firstE_eq (x hp : Int) (h : 1 ≤ hp) (x0 : 0 ≤ x) : firstE x hp = x - x % hp + hp := by
  have h1 := Int.emod_add_mul_ediv x hp
  unfold firstE
  split
  · rw [Int.add_mul, Int.mul_comm]; omega
  · rename_i h2
    have : x % hp = x := Int.emod_eq_of_lt x0 (by omega)
    omega

/-- what is true of the ends that hold a tick -/
theorem holds_plain {sz hp x : Int} {n : Nat} (hm : mayB sz hp 1 = true) (x0 : 0 ≤ x) (x1 : x ≤ 1099511627776)
    (hall : ∀ i, i < n → more (fun e _ => decide (e - sz ≤ x)) hp (firstE x hp) i) (hlast : ¬ more (fun e _ => decide (e - sz ≤ x)) hp (firstE x hp) n) :
    n ≤ 4096 ∧ (n = 0 ↔ x % hp < hp - sz) ∧ (∀ i, i < n → endB hp (firstE x hp + (i : Int) * hp) = true ∧ holdsB sz x (firstE x hp + (i : Int) * hp) = true) ∧
      holdsB sz x (firstE x hp - hp) = false ∧ holdsB sz x (firstE x hp + (n : Int) * hp) = false ∧ 1 ≤ firstE x hp ∧ firstE x hp ≤ x + hp ∧ (∀ i, i < n → firstE x hp + (i : Int) * hp ≤ 2199023255552) := by
  obtain ⟨_, h1, h2, _, h3, h4, _, h5⟩ := mayB_facts hm
  have hf := firstE_eq x hp h3 x0
  have hm0 := Int.emod_nonneg x (b := hp) (by omega)
  have hm1 := Int.emod_lt_of_pos x (b := hp) (by omega)
  have hm2 := Int.emod_add_mul_ediv x hp
  generalize hq : x / hp = q at *
  have hq0 : 0 ≤ hp * q := by rw [← hq]; exact Int.mul_nonneg (by omega) (Int.ediv_nonneg x0 (by omega))
  have hall' : ∀ i, i < n → firstE x hp + (i : Int) * hp ≤ 2199023255552 ∧ firstE x hp + (i : Int) * hp - sz ≤ x := fun i hi => by have := hall i hi; simpa [more] using this
  have hlast' : ¬ (firstE x hp + (n : Int) * hp ≤ 2199023255552 ∧ firstE x hp + (n : Int) * hp - sz ≤ x) := fun h => hlast (by simpa [more] using h)
  refine ⟨?_, ?_, fun i hi => ⟨?_, ?_⟩, ?_, ?_, by omega, by omega, fun i hi => (hall' i hi).1⟩
  · rcases Nat.lt_or_ge 4096 n with h | h
    · exfalso
      have := (hall' 4096 h).2
      have h6 : 4096 ≤ (sz - 1) / hp := by rw [Int.le_ediv_iff_mul_le (by omega)]; simp at this; omega
      omega
    · exact h
  · constructor
    · rintro rfl
      rcases Int.lt_or_le (x % hp) (hp - sz) with h | h
      · exact h
      · exfalso; apply hlast'; simp; omega
    · intro h
      rcases Nat.eq_zero_or_pos n with h0 | h0
      · exact h0
      · have := (hall' 0 h0).2; simp at this; omega
  · have h6 := (hall' i hi).1
    have h7 := Int.mul_nonneg (a := (i : Int)) (b := hp) (by omega) (by omega)
    have h8 : (firstE x hp + (i : Int) * hp) % hp = 0 := by
      rw [hf, show x - x % hp + hp + (i : Int) * hp = hp * q + hp * 1 + hp * (i : Int) from by rw [Int.mul_comm (i : Int)]; omega, ← Int.mul_add, ← Int.mul_add]
      exact Int.mul_emod_right _ _
    simp only [endB, Bool.and_eq_true, decide_eq_true_eq, beq_iff_eq]
    exact ⟨by omega, by omega, h8⟩
  · have h6 := (hall' i hi).2
    have h7 := Int.mul_nonneg (a := (i : Int)) (b := hp) (by omega) (by omega)
    simp only [holdsB, Bool.and_eq_true, decide_eq_true_eq]
    omega
  · simp only [holdsB]; simp; omega
  · simp only [holdsB]; simp; omega

theorem law_holds_no (w : World) (sz hp x : Int) (h : mayB sz hp 1 = false ∨ x < 0 ∨ 1099511627776 < x) :
    Calls Try.prog 3 #[.agg #[.int .i64 sz, .int .i64 hp], .int .i64 x] w (BoolPost w true) := by
  have BK : Hid ((w.alloc (.cells #[.int .i64 sz, .int .i64 hp] 23)).heap[w.heap.size]? = some (.cells #[.int .i64 sz, .int .i64 hp] 23 (0, 0))) := blk_new w _
  have HB : Hid (Below w.heap.size w (w.alloc (.cells #[.int .i64 sz, .int .i64 hp] 23))) := (Below.refl _ w).alloc (Nat.le_refl _) _
  have HH := Lib.hid h
  have hcase : (∃ b, mayB sz hp 1 = b) ∧ (mayB sz hp 1 = true → (x < 0 ∨ 1099511627776 < x)) := ⟨⟨_, rfl⟩, fun h1 => by rcases h with h | h; (rw [h1] at h; cases h); exact h⟩
  obtain ⟨⟨b, hb0⟩, hx⟩ := hcase
  rw [hb0] at hx
  have HM := Lib.hid hb0
  clear h hb0
  have hd : b = false ∨ (b = true ∧ x < 0) ∨ (b = true ∧ decide (x < 0) = false ∧ 1099511627776 < x) := by
    cases b
    · exact .inl rfl
    · rcases hx rfl with h | h
      · exact .inr (.inl ⟨rfl, h⟩)
      · exact .inr (.inr ⟨rfl, by simp; omega, h⟩)
  clear hx
  rcases hd with rfl | ⟨rfl, hd⟩ | ⟨rfl, hd, hd2⟩
  all_goals
    go_enter Try.func3, Try.ntmps3
    go_wp2_with fail
    refine (holds_no _ _ _ _ HH.out).mono ?_
    rintro e w1 ⟨rfl, hb⟩
    have BK : Hid (w1.heap[w.heap.size]? = some (.cells #[.int .i64 sz, .int .i64 hp] 23 (0, 0))) := blk_below BK.out hb (blk_lt BK.out)
    have HB : Hid (Below w.heap.size w w1) := HB.out.trans ((show Below _ _ _ from hb).mono HB.out.size)
    have c0 : w1.cell? ⟨w.heap.size, 0, none⟩ = some (.int .i64 sz) := blk_cell BK.out 0
    have c1 : w1.cell? ⟨w.heap.size, 1, none⟩ = some (.int .i64 hp) := blk_cell BK.out 1
    clear hb
    go_wp2_with fail
    refine (rmay_calls _ _ _ _).mono ?_
    rintro e w2 ⟨rfl, hb⟩
    rw [HM.out]
    have BK : Hid (w2.heap[w.heap.size]? = some (.cells #[.int .i64 sz, .int .i64 hp] 23 (0, 0))) := blk_below BK.out hb (blk_lt BK.out)
    have HB : Hid (Below w.heap.size w w2) := HB.out.trans ((show Below _ _ _ from hb).mono HB.out.size)
    have c0 : w2.cell? ⟨w.heap.size, 0, none⟩ = some (.int .i64 sz) := blk_cell BK.out 0
    have c1 : w2.cell? ⟨w.heap.size, 1, none⟩ = some (.int .i64 hp) := blk_cell BK.out 1
    clear hb
    go_wp2_with fail
    refine (awake_calls _).mono ?_
    rintro e w3 ⟨rfl, hb⟩
    have BK : Hid (w3.heap[w.heap.size]? = some (.cells #[.int .i64 sz, .int .i64 hp] 23 (0, 0))) := blk_below BK.out hb (blk_lt BK.out)
    have HB : Hid (Below w.heap.size w w3) := HB.out.trans ((show Below _ _ _ from hb).mono HB.out.size)
    have c0 : w3.cell? ⟨w.heap.size, 0, none⟩ = some (.int .i64 sz) := blk_cell BK.out 0
    have c1 : w3.cell? ⟨w.heap.size, 1, none⟩ = some (.int .i64 hp) := blk_cell BK.out 1
    clear hb
    go_wp2
    go_ret
    exact ⟨rfl, HB.out⟩

set_option maxHeartbeats 1000000 in
theorem law_holds_yes (w : World) (sz hp x : Int) (hm : mayB sz hp 1 = true) (x0 : 0 ≤ x) (x1 : x ≤ 1099511627776) :
    Calls Try.prog 3 #[.agg #[.int .i64 sz, .int .i64 hp], .int .i64 x] w (BoolPost w true) := by
  have BK : Hid ((w.alloc (.cells #[.int .i64 sz, .int .i64 hp] 23)).heap[w.heap.size]? = some (.cells #[.int .i64 sz, .int .i64 hp] 23 (0, 0))) := blk_new w _
  have HB : Hid (Below w.heap.size w (w.alloc (.cells #[.int .i64 sz, .int .i64 hp] 23))) := (Below.refl _ w).alloc (Nat.le_refl _) _
  obtain ⟨_, h1, h2, _, h3, h4, _, h5⟩ := mayB_facts hm
  have d0 : decide (x < 0) = false := by simp; omega
  have d1 : decide (1099511627776 < x) = false := by simp; omega
  have hne : (hp == 0) = false := by simp; omega
  have hne' : ¬ hp = 0 := by omega
  have HM := Lib.hid hm
  clear hm
  go_enter Try.func3, Try.ntmps3
  go_wp2_with fail
  refine (holds_calls _ _ _ _ HM.out x0 x1).mono ?_
  rintro e w1 ⟨n, v, rfl, hown, hall, hlast, hb⟩
  obtain ⟨p1, p2, p3, p4, p5, p6, p7, p8⟩ := holds_plain HM.out x0 x1 hall hlast
  generalize hF : firstE x hp = fst at *
  clear hF hall hlast
  have BK : Hid (w1.heap[w.heap.size]? = some (.cells #[.int .i64 sz, .int .i64 hp] 23 (0, 0))) := blk_below BK.out hb (blk_lt BK.out)
  have HB : Hid (Below w.heap.size w w1) := HB.out.trans ((show Below _ _ _ from hb).mono HB.out.size)
  have c0 : w1.cell? ⟨w.heap.size, 0, none⟩ = some (.int .i64 sz) := blk_cell BK.out 0
  have c1 : w1.cell? ⟨w.heap.size, 1, none⟩ = some (.int .i64 hp) := blk_cell BK.out 1
  clear hb
  have P2 := Lib.hid p2
  have P3 := Lib.hid p3
  have P4 := Lib.hid p4
  have P5 := Lib.hid p5
  have P8 := Lib.hid p8
  clear p2 p3 p4 p5 p8
  rcases Nat.eq_zero_or_pos n with rfl | hn
  · obtain ⟨o, cp, rfl⟩ := ownsRow_shape hown
    clear hown
    have hcm : decide (x % hp < hp - sz) = true := by simpa using P2.out.1 rfl
    go_wp2_with fail
    refine (rmay_calls _ _ _ _).mono ?_
    rintro e w2 ⟨rfl, hb⟩
    rw [HM.out]
    have BK : Hid (w2.heap[w.heap.size]? = some (.cells #[.int .i64 sz, .int .i64 hp] 23 (0, 0))) := blk_below BK.out hb (blk_lt BK.out)
    have HB : Hid (Below w.heap.size w w2) := HB.out.trans ((show Below _ _ _ from hb).mono HB.out.size)
    have c0 : w2.cell? ⟨w.heap.size, 0, none⟩ = some (.int .i64 sz) := blk_cell BK.out 0
    have c1 : w2.cell? ⟨w.heap.size, 1, none⟩ = some (.int .i64 hp) := blk_cell BK.out 1
    clear hb
    go_wp2_with fail
    go_quiet (fail)
    go_wp2_with fail
    refine wp_loop_rounds 1 ?_
    rw [rounds_succ]
    go_wp2_with fail
    refine (awake_calls _).mono ?_
    rintro e w3 ⟨rfl, hb⟩
    have HB : Hid (Below w.heap.size w w3) := (below_drewN HB.out nq).trans ((show Below _ _ _ from hb).mono (by have := HB.out.size; simpa using this))
    clear hb
    go_wp2
    go_ret
    exact ⟨rfl, HB.out⟩
  · obtain ⟨g, cp, rfl, hcp, hg0, hg1, hc⟩ := ownsRow_open hown hn
    have HC : Hid (∀ i, i < n → w1.cell? ⟨g, i, none⟩ = some (.int .i64 (fst + (i : Int) * hp))) := fun i hi => by rw [hc i (by omega), abv_at _ _ _ _ hi]
    have HG := Lib.hid hg0
    clear hown hc hg0
    have hcm : decide (x % hp < hp - sz) = false := by
      have h : ¬ x % hp < hp - sz := fun h => by have := P2.out.2 h; omega
      simpa using h
    have hn0 : ((n : Int) == 0) = false := by simp; omega
    have hn1 : decide (4096 < (n : Int)) = false := by simp; omega
    go_wp2_with fail
    refine (rmay_calls _ _ _ _).mono ?_
    rintro e w2 ⟨rfl, hb⟩
    rw [HM.out]
    have HC : Hid (∀ i, i < n → w2.cell? ⟨g, i, none⟩ = some (.int .i64 (fst + (i : Int) * hp))) := fun i hi => (hb.cell hg1).trans (HC.out i hi)
    have hg2 : g < w2.heap.size := Nat.lt_of_lt_of_le hg1 hb.size
    have BK : Hid (w2.heap[w.heap.size]? = some (.cells #[.int .i64 sz, .int .i64 hp] 23 (0, 0))) := blk_below BK.out hb (blk_lt BK.out)
    have HB : Hid (Below w.heap.size w w2) := HB.out.trans ((show Below _ _ _ from hb).mono HB.out.size)
    have c0 : w2.cell? ⟨w.heap.size, 0, none⟩ = some (.int .i64 sz) := blk_cell BK.out 0
    have c1 : w2.cell? ⟨w.heap.size, 1, none⟩ = some (.int .i64 hp) := blk_cell BK.out 1
    clear hb
    go_wp2_with fail
    go_quiet (fail)
    go_wp2_with fail
    have HB2 : Hid (Below w.heap.size w (w2.drewN nq)) := below_drewN HB.out nq
    have BK2 : Hid ((w2.drewN nq).heap[w.heap.size]? = some (.cells #[.int .i64 sz, .int .i64 hp] 23 (0, 0))) := BK.out
    have HC2 : Hid (∀ i, i < n → (w2.drewN nq).cell? ⟨g, i, none⟩ = some (.int .i64 (fst + (i : Int) * hp))) := HC.out
    clear c0 c1 HC
    go_loopg [51] n (fun m i wr => ∃ k : Nat, k + m = n ∧ i = .int .i64 k ∧ Hid (Below w.heap.size w wr) ∧ Hid (wr.heap[w.heap.size]? = some (.cells #[.int .i64 sz, .int .i64 hp] 23 (0, 0))) ∧
      Hid (∀ i, i < n → wr.cell? ⟨g, i, none⟩ = some (.int .i64 (fst + (i : Int) * hp))) ∧ Hid (g < wr.heap.size))
    case atStart => exact ⟨0, by omega, rfl, HB2, BK2, HC2, hg2⟩
    case round =>
      obtain ⟨k, hk, rfl, HB, BK, HC, HGL⟩ := hrel
      have c0 : wr.cell? ⟨w.heap.size, 0, none⟩ = some (.int .i64 sz) := blk_cell BK.out 0
      have c1 : wr.cell? ⟨w.heap.size, 1, none⟩ = some (.int .i64 hp) := blk_cell BK.out 1
      by_cases hkn : k < n
      · have P8' := P8.out k hkn
        obtain ⟨P3a, P3b⟩ := P3.out k hkn
        obtain ⟨le, hle⟩ : ∃ le, le = fst + (k : Int) * hp := ⟨_, rfl⟩
        have hm0 := Int.mul_nonneg (a := (k : Int)) (b := hp) (by omega) (by omega)
        have cg : wr.cell? ⟨g, k, none⟩ = some (.int .i64 le) := by rw [hle]; exact HC.out k hkn
        have hl1 : 1 ≤ le := by omega
        have hl2 : le ≤ 2199023255552 := by omega
        rw [← hle] at P3a P3b
        have P3a := Lib.hid P3a
        have P3b := Lib.hid P3b
        have HLE := Lib.hid hle
        clear hle hm0 P8'
        rcases Nat.eq_zero_or_pos k with rfl | hk0
        · have cg' : wr.cell? ⟨g, 0, none⟩ = some (.int .i64 le) := cg
          have hd0 : decide ((0 : Int) < 0) = false := by decide
          go_wp2_with fail
          refine start_ (n := 27) (S := fun w' => w'.cell? ⟨w.heap.size, 0, none⟩ = some (.int .i64 sz) ∧ w'.cell? ⟨w.heap.size, 1, none⟩ = some (.int .i64 hp)) (ds := []) #[false, false, false, false, false, false, false, false, false, false, false, false, false, false, false, false, false, false, false, false, false, false, false, false, false, false, false] (by kernel_rfl) rfl rfl ⟨c0, c1⟩ (fun hHeld => ?_)
          refine pure_ (i := 1) (N := some 57) (v := ?_) (a' := ?_) #[false, true, false, false, false, false, false, false, false, false, false, false, false, false, false, false, false, false, false, false, false, false, false, false, false, false, false] rfl rfl (by kernel_rfl) (fun _ _ _ h => h) (Or.inl ⟨by rfl, ?_⟩) ?_ ?_
          rotate_left
          · intro w'
            go_simp
            with_reducible rfl
          rotate_left
          · simp only [Act.put, List.setIfInBounds_toArray, List.set_cons_zero, List.set_cons_succ, i64_w, i32_w]
            rfl
          refine take_ (i := 0) (N := some 56) (v := ?_) (a' := ?_) #[true, true, false, false, false, false, false, false, false, false, false, false, false, false, false, false, false, false, false, false, false, false, false, false, false, false, false] rfl rfl (by kernel_rfl) (fun _ _ _ h => h) (Or.inl ⟨by rfl, ?_⟩) hHeld ?_ ?_
          rotate_left
          · rintro w' ⟨s0, s1⟩
            go_simp
            with_reducible rfl
          rotate_left
          · simp only [Act.put, List.setIfInBounds_toArray, List.set_cons_zero, List.set_cons_succ, i64_w, i32_w]
            rfl
          refine one_ (i := 2) (N := some 58) #[true, true, true, false, false, false, false, false, false, false, false, false, false, false, false, false, false, false, false, false, false, false, false, false, false, false, false] rfl rfl (by kernel_rfl) (by decide) (fun K hK => ?_)
          refine goes_ Try.func13 (by kernel_rfl) rfl #[.agg #[.int .i64 sz, .int .i64 hp], .int .i64 le] (by rfl) rfl rfl (by (try simp only [List.map_toArray, List.map_cons, List.map_nil]); first | done | rfl) ?_
          with_reducible refine (rend_calls _ _ _ _ h3).mono ?_
          rintro e w3 ⟨rfl, hb⟩
          refine ⟨_, rfl, ?_⟩
          rw [P3a.out]
          have HB3 := Lib.hid hb
          refine hK.out _ _ ⟨((hb.cell (p := ⟨w.heap.size, 0, none⟩) (blk_lt BK.out)).trans hHeld.1), ((hb.cell (p := ⟨w.heap.size, 1, none⟩) (blk_lt BK.out)).trans hHeld.2)⟩ (fun hHeld => ?_)
          clear hK K
          refine norm_ (a' := ?_) ?_ ?_
          rotate_left
          · show Act.put _ (some 58) _ = _
            simp only [Act.put, List.setIfInBounds_toArray, List.set_cons_zero, List.set_cons_succ, i64_w, i32_w]
            rfl
          refine pure_ (i := 3) (N := some 59) (v := ?_) (a' := ?_) #[true, true, true, true, false, false, false, false, false, false, false, false, false, false, false, false, false, false, false, false, false, false, false, false, false, false, false] rfl rfl (by kernel_rfl) (fun _ _ _ h => h) (Or.inl ⟨by rfl, ?_⟩) ?_ ?_
          rotate_left
          · intro w'
            go_simp
            with_reducible rfl
          rotate_left
          · simp only [Act.put, List.setIfInBounds_toArray, List.set_cons_zero, List.set_cons_succ, i64_w, i32_w]
            rfl
          refine pure_ (i := 4) (N := some 60) (v := ?_) (a' := ?_) #[true, true, true, true, true, false, false, false, false, false, false, false, false, false, false, false, false, false, false, false, false, false, false, false, false, false, false] rfl rfl (by kernel_rfl) (fun _ _ _ h => h) (Or.inl ⟨by rfl, ?_⟩) ?_ ?_
          rotate_left
          · intro w'
            go_simp
            with_reducible rfl
          rotate_left
          · simp only [Act.put, List.setIfInBounds_toArray, List.set_cons_zero, List.set_cons_succ, i64_w, i32_w]
            rfl
          refine pure_ (i := 6) (N := some 62) (v := ?_) (a' := ?_) #[true, true, true, true, true, false, true, false, false, false, false, false, false, false, false, false, false, false, false, false, false, false, false, false, false, false, false] rfl rfl (by kernel_rfl) (fun _ _ _ h => h) (Or.inl ⟨by rfl, ?_⟩) ?_ ?_
          rotate_left
          · intro w'
            go_simp
            with_reducible rfl
          rotate_left
          · simp only [Act.put, List.setIfInBounds_toArray, List.set_cons_zero, List.set_cons_succ, i64_w, i32_w]
            rfl
          refine pure_ (i := 7) (N := some 63) (v := ?_) (a' := ?_) #[true, true, true, true, true, false, true, true, false, false, false, false, false, false, false, false, false, false, false, false, false, false, false, false, false, false, false] rfl rfl (by kernel_rfl) (fun _ _ _ h => h) (Or.inl ⟨by rfl, ?_⟩) ?_ ?_
          rotate_left
          · intro w'
            go_simp
            with_reducible rfl
          rotate_left
          · simp only [Act.put, List.setIfInBounds_toArray, List.set_cons_zero, List.set_cons_succ, i64_w, i32_w]
            rfl
          refine take_ (i := 5) (N := some 61) (v := ?_) (a' := ?_) #[true, true, true, true, true, true, true, true, false, false, false, false, false, false, false, false, false, false, false, false, false, false, false, false, false, false, false] rfl rfl (by kernel_rfl) (fun _ _ _ h => h) (Or.inl ⟨by rfl, ?_⟩) hHeld ?_ ?_
          rotate_left
          · rintro w' ⟨s0, s1⟩
            go_simp
            with_reducible rfl
          rotate_left
          · simp only [Act.put, List.setIfInBounds_toArray, List.set_cons_zero, List.set_cons_succ, i64_w, i32_w]
            rfl
          refine one_ (i := 8) (N := some 64) #[true, true, true, true, true, true, true, true, true, false, false, false, false, false, false, false, false, false, false, false, false, false, false, false, false, false, false] rfl rfl (by kernel_rfl) (by decide) (fun K hK => ?_)
          refine goes_ Try.func14 (by kernel_rfl) rfl #[.agg #[.int .i64 sz, .int .i64 hp], .int .i64 x, .int .i64 le] (by rfl) rfl rfl (by (try simp only [List.map_toArray, List.map_cons, List.map_nil]); first | done | rfl) ?_
          with_reducible refine (rholds_calls _ _ _ _ _ (by omega) (by omega)).mono ?_
          rintro e w4 ⟨rfl, hb2⟩
          refine ⟨_, rfl, ?_⟩
          rw [P3b.out]
          have HB4 := Lib.hid hb2
          refine hK.out _ _ ⟨((hb2.cell (p := ⟨w.heap.size, 0, none⟩) (Nat.lt_of_lt_of_le (blk_lt BK.out) HB3.out.size)).trans hHeld.1), ((hb2.cell (p := ⟨w.heap.size, 1, none⟩) (Nat.lt_of_lt_of_le (blk_lt BK.out) HB3.out.size)).trans hHeld.2)⟩ (fun hHeld => ?_)
          clear hK K
          refine norm_ (a' := ?_) ?_ ?_
          rotate_left
          · show Act.put _ (some 64) _ = _
            simp only [Act.put, List.setIfInBounds_toArray, List.set_cons_zero, List.set_cons_succ, i64_w, i32_w]
            rfl
          refine pure_ (i := 9) (N := some 65) (v := ?_) (a' := ?_) #[true, true, true, true, true, true, true, true, true, true, false, false, false, false, false, false, false, false, false, false, false, false, false, false, false, false, false] rfl rfl (by kernel_rfl) (fun _ _ _ h => h) (Or.inl ⟨by rfl, ?_⟩) ?_ ?_
          rotate_left
          · intro w'
            go_simp
            with_reducible rfl
          rotate_left
          · simp only [Act.put, List.setIfInBounds_toArray, List.set_cons_zero, List.set_cons_succ, i64_w, i32_w]
            rfl
          refine pure_ (i := 10) (N := some 66) (v := ?_) (a' := ?_) #[true, true, true, true, true, true, true, true, true, true, true, false, false, false, false, false, false, false, false, false, false, false, false, false, false, false, false] rfl rfl (by kernel_rfl) (fun _ _ _ h => h) (Or.inl ⟨by rfl, ?_⟩) ?_ ?_
          rotate_left
          · intro w'
            go_simp
            with_reducible rfl
          rotate_left
          · simp only [Act.put, List.setIfInBounds_toArray, List.set_cons_zero, List.set_cons_succ, i64_w, i32_w]
            rfl
          refine pure_ (i := 11) (N := some 67) (v := ?_) (a' := ?_) #[true, true, true, true, true, true, true, true, true, true, true, true, false, false, false, false, false, false, false, false, false, false, false, false, false, false, false] rfl rfl (by kernel_rfl) (fun _ _ _ h => h) (Or.inl ⟨by rfl, ?_⟩) ?_ ?_
          rotate_left
          · intro w'
            go_simp
            with_reducible rfl
          rotate_left
          · simp only [Act.put, List.setIfInBounds_toArray, List.set_cons_zero, List.set_cons_succ, i64_w, i32_w]
            rfl
          refine pure_ (i := 12) (N := some 68) (v := ?_) (a' := ?_) #[true, true, true, true, true, true, true, true, true, true, true, true, true, false, false, false, false, false, false, false, false, false, false, false, false, false, false] rfl rfl (by kernel_rfl) (fun _ _ _ h => h) (Or.inl ⟨by rfl, ?_⟩) ?_ ?_
          rotate_left
          · intro w'
            go_simp
            with_reducible rfl
          rotate_left
          · simp only [Act.put, List.setIfInBounds_toArray, List.set_cons_zero, List.set_cons_succ, i64_w, i32_w]
            rfl
          refine pure_ (i := 13) (N := some 69) (v := ?_) (a' := ?_) #[true, true, true, true, true, true, true, true, true, true, true, true, true, true, false, false, false, false, false, false, false, false, false, false, false, false, false] rfl rfl (by kernel_rfl) (fun _ _ _ h => h) (Or.inl ⟨by rfl, ?_⟩) ?_ ?_
          rotate_left
          · intro w'
            go_simp
            with_reducible rfl
          rotate_left
          · simp only [Act.put, List.setIfInBounds_toArray, List.set_cons_zero, List.set_cons_succ, i64_w, i32_w]
            rfl
          refine pure_ (i := 14) (N := some 70) (v := ?_) (a' := ?_) #[true, true, true, true, true, true, true, true, true, true, true, true, true, true, true, false, false, false, false, false, false, false, false, false, false, false, false] rfl rfl (by kernel_rfl) (fun _ _ _ h => h) (Or.inl ⟨by rfl, ?_⟩) ?_ ?_
          rotate_left
          · intro w'
            go_simp
            with_reducible rfl
          rotate_left
          · simp only [Act.put, List.setIfInBounds_toArray, List.set_cons_zero, List.set_cons_succ, i64_w, i32_w]
            rfl
          refine pure_ (i := 15) (N := some 71) (v := undef) (a' := ?_) #[true, true, true, true, true, true, true, true, true, true, true, true, true, true, true, true, false, false, false, false, false, false, false, false, false, false, false] rfl rfl (by kernel_rfl) (fun _ _ _ h => h) (Or.inr ⟨by rfl, rfl⟩) ?_ ?_
          rotate_left
          · simp only [Act.put, List.setIfInBounds_toArray, List.set_cons_zero, List.set_cons_succ, i64_w, i32_w]
            rfl
          refine pure_ (i := 16) (N := some 72) (v := undef) (a' := ?_) #[true, true, true, true, true, true, true, true, true, true, true, true, true, true, true, true, true, false, false, false, false, false, false, false, false, false, false] rfl rfl (by kernel_rfl) (fun _ _ _ h => h) (Or.inr ⟨by rfl, rfl⟩) ?_ ?_
          rotate_left
          · simp only [Act.put, List.setIfInBounds_toArray, List.set_cons_zero, List.set_cons_succ, i64_w, i32_w]
            rfl
          refine pure_ (i := 17) (N := some 73) (v := undef) (a' := ?_) #[true, true, true, true, true, true, true, true, true, true, true, true, true, true, true, true, true, true, false, false, false, false, false, false, false, false, false] rfl rfl (by kernel_rfl) (fun _ _ _ h => h) (Or.inr ⟨by rfl, rfl⟩) ?_ ?_
          rotate_left
          · simp only [Act.put, List.setIfInBounds_toArray, List.set_cons_zero, List.set_cons_succ, i64_w, i32_w]
            rfl
          refine pure_ (i := 18) (N := some 74) (v := undef) (a' := ?_) #[true, true, true, true, true, true, true, true, true, true, true, true, true, true, true, true, true, true, true, false, false, false, false, false, false, false, false] rfl rfl (by kernel_rfl) (fun _ _ _ h => h) (Or.inr ⟨by rfl, rfl⟩) ?_ ?_
          rotate_left
          · simp only [Act.put, List.setIfInBounds_toArray, List.set_cons_zero, List.set_cons_succ, i64_w, i32_w]
            rfl
          refine pure_ (i := 19) (N := some 75) (v := undef) (a' := ?_) #[true, true, true, true, true, true, true, true, true, true, true, true, true, true, true, true, true, true, true, true, false, false, false, false, false, false, false] rfl rfl (by kernel_rfl) (fun _ _ _ h => h) (Or.inr ⟨by rfl, rfl⟩) ?_ ?_
          rotate_left
          · simp only [Act.put, List.setIfInBounds_toArray, List.set_cons_zero, List.set_cons_succ, i64_w, i32_w]
            rfl
          refine pure_ (i := 20) (N := some 76) (v := undef) (a' := ?_) #[true, true, true, true, true, true, true, true, true, true, true, true, true, true, true, true, true, true, true, true, true, false, false, false, false, false, false] rfl rfl (by kernel_rfl) (fun _ _ _ h => h) (Or.inr ⟨by rfl, rfl⟩) ?_ ?_
          rotate_left
          · simp only [Act.put, List.setIfInBounds_toArray, List.set_cons_zero, List.set_cons_succ, i64_w, i32_w]
            rfl
          refine pure_ (i := 21) (N := some 77) (v := undef) (a' := ?_) #[true, true, true, true, true, true, true, true, true, true, true, true, true, true, true, true, true, true, true, true, true, true, false, false, false, false, false] rfl rfl (by kernel_rfl) (fun _ _ _ h => h) (Or.inr ⟨by rfl, rfl⟩) ?_ ?_
          rotate_left
          · simp only [Act.put, List.setIfInBounds_toArray, List.set_cons_zero, List.set_cons_succ, i64_w, i32_w]
            rfl
          refine pure_ (i := 22) (N := some 78) (v := undef) (a' := ?_) #[true, true, true, true, true, true, true, true, true, true, true, true, true, true, true, true, true, true, true, true, true, true, true, false, false, false, false] rfl rfl (by kernel_rfl) (fun _ _ _ h => h) (Or.inr ⟨by rfl, rfl⟩) ?_ ?_
          rotate_left
          · simp only [Act.put, List.setIfInBounds_toArray, List.set_cons_zero, List.set_cons_succ, i64_w, i32_w]
            rfl
          refine pure_ (i := 23) (N := some 79) (v := undef) (a' := ?_) #[true, true, true, true, true, true, true, true, true, true, true, true, true, true, true, true, true, true, true, true, true, true, true, true, false, false, false] rfl rfl (by kernel_rfl) (fun _ _ _ h => h) (Or.inr ⟨by rfl, rfl⟩) ?_ ?_
          rotate_left
          · simp only [Act.put, List.setIfInBounds_toArray, List.set_cons_zero, List.set_cons_succ, i64_w, i32_w]
            rfl
          refine pure_ (i := 24) (N := some 80) (v := undef) (a' := ?_) #[true, true, true, true, true, true, true, true, true, true, true, true, true, true, true, true, true, true, true, true, true, true, true, true, true, false, false] rfl rfl (by kernel_rfl) (fun _ _ _ h => h) (Or.inr ⟨by rfl, rfl⟩) ?_ ?_
          rotate_left
          · simp only [Act.put, List.setIfInBounds_toArray, List.set_cons_zero, List.set_cons_succ, i64_w, i32_w]
            rfl
          refine pure_ (i := 25) (N := some 81) (v := ?_) (a' := ?_) #[true, true, true, true, true, true, true, true, true, true, true, true, true, true, true, true, true, true, true, true, true, true, true, true, true, true, false] rfl rfl (by kernel_rfl) (fun _ _ _ h => h) (Or.inl ⟨by rfl, ?_⟩) ?_ ?_
          rotate_left
          · intro w'
            go_simp
            with_reducible rfl
          rotate_left
          · simp only [Act.put, List.setIfInBounds_toArray, List.set_cons_zero, List.set_cons_succ, i64_w, i32_w]
            rfl
          refine pure_ (i := 26) (N := some 82) (v := ?_) (a' := ?_) #[true, true, true, true, true, true, true, true, true, true, true, true, true, true, true, true, true, true, true, true, true, true, true, true, true, true, true] rfl rfl (by kernel_rfl) (fun _ _ _ h => h) (Or.inl ⟨by rfl, ?_⟩) ?_ ?_
          rotate_left
          · intro w'
            go_simp
            with_reducible rfl
          rotate_left
          · simp only [Act.put, List.setIfInBounds_toArray, List.set_cons_zero, List.set_cons_succ, i64_w, i32_w]
            rfl
          refine done_ (by kernel_rfl) ?_
          clear hb hb2 hHeld c0 c1 cg cg'
          have HBx : Hid (Below wr.heap.size wr w4) := ((Below.refl wr.heap.size wr).drew.trans HB3.out).trans (HB4.out.mono HB3.out.size)
          go_wp2
          go_roundg (n - 1)
          case measure => omega
          case rel => exact ⟨1, by omega, rfl, HB.out.trans (HBx.out.mono HB.out.size), blk_below BK.out HBx.out (blk_lt BK.out), fun i hi => (HBx.out.cell HGL.out).trans (HC.out i hi), Nat.lt_of_lt_of_le HGL.out HBx.out.size⟩
        · have hd0 : decide (0 < (k : Int)) = true := by simp; omega
          have cg1 : wr.cell? ⟨g, k - 1, none⟩ = some (.int .i64 (le - hp)) := by
            rw [HC.out (k - 1) (by omega), HLE.out, show ((k - 1 : Nat) : Int) = (k : Int) - 1 from by omega, Int.sub_mul]; congr 2; omega
          have hs1 : IntKind.i64.wrap (le - hp + hp) = le := by rw [IntWalk.i64_in _ (by omega)]; omega
          have hs2 : le - hp + hp = le := by omega
          have hs3 : wrap64 le = le := by unfold wrap64; omega
          have hi1 : wrap64 ((k : Int) - 1) = (k : Int) - 1 := by unfold wrap64; omega
          have hi2 : 0 ≤ (k : Int) - 1 := by omega
          have hi5 : (1 : Int) ≤ k := by omega
          have hi3 : (k : Int) - 1 < n := by omega
          have hi4 : ((k : Int) - 1).toNat = k - 1 := by omega
          go_wp2_with fail
          refine start_ (n := 27) (S := fun w' => w'.cell? ⟨w.heap.size, 0, none⟩ = some (.int .i64 sz) ∧ w'.cell? ⟨w.heap.size, 1, none⟩ = some (.int .i64 hp) ∧ w'.cell? ⟨g, k - 1, none⟩ = some (.int .i64 (le - hp))) (ds := []) #[false, false, false, false, false, false, false, false, false, false, false, false, false, false, false, false, false, false, false, false, false, false, false, false, false, false, false] (by kernel_rfl) rfl rfl ⟨c0, c1, cg1⟩ (fun hHeld => ?_)
          refine pure_ (i := 1) (N := some 57) (v := ?_) (a' := ?_) #[false, true, false, false, false, false, false, false, false, false, false, false, false, false, false, false, false, false, false, false, false, false, false, false, false, false, false] rfl rfl (by kernel_rfl) (fun _ _ _ h => h) (Or.inl ⟨by rfl, ?_⟩) ?_ ?_
          rotate_left
          · intro w'
            go_simp
            with_reducible rfl
          rotate_left
          · simp only [Act.put, List.setIfInBounds_toArray, List.set_cons_zero, List.set_cons_succ, i64_w, i32_w]
            rfl
          refine take_ (i := 0) (N := some 56) (v := ?_) (a' := ?_) #[true, true, false, false, false, false, false, false, false, false, false, false, false, false, false, false, false, false, false, false, false, false, false, false, false, false, false] rfl rfl (by kernel_rfl) (fun _ _ _ h => h) (Or.inl ⟨by rfl, ?_⟩) hHeld ?_ ?_
          rotate_left
          · rintro w' ⟨s0, s1, s2⟩
            go_simp
            with_reducible rfl
          rotate_left
          · simp only [Act.put, List.setIfInBounds_toArray, List.set_cons_zero, List.set_cons_succ, i64_w, i32_w]
            rfl
          refine one_ (i := 2) (N := some 58) #[true, true, true, false, false, false, false, false, false, false, false, false, false, false, false, false, false, false, false, false, false, false, false, false, false, false, false] rfl rfl (by kernel_rfl) (by decide) (fun K hK => ?_)
          refine goes_ Try.func13 (by kernel_rfl) rfl #[.agg #[.int .i64 sz, .int .i64 hp], .int .i64 le] (by rfl) rfl rfl (by (try simp only [List.map_toArray, List.map_cons, List.map_nil]); first | done | rfl) ?_
          with_reducible refine (rend_calls _ _ _ _ h3).mono ?_
          rintro e w3 ⟨rfl, hb⟩
          refine ⟨_, rfl, ?_⟩
          rw [P3a.out]
          have HB3 := Lib.hid hb
          refine hK.out _ _ ⟨((hb.cell (p := ⟨w.heap.size, 0, none⟩) (blk_lt BK.out)).trans hHeld.1), ((hb.cell (p := ⟨w.heap.size, 1, none⟩) (blk_lt BK.out)).trans hHeld.2.1), ((hb.cell (p := ⟨g, k - 1, none⟩) HGL.out).trans hHeld.2.2)⟩ (fun hHeld => ?_)
          clear hK K
          refine norm_ (a' := ?_) ?_ ?_
          rotate_left
          · show Act.put _ (some 58) _ = _
            simp only [Act.put, List.setIfInBounds_toArray, List.set_cons_zero, List.set_cons_succ, i64_w, i32_w]
            rfl
          refine pure_ (i := 3) (N := some 59) (v := ?_) (a' := ?_) #[true, true, true, true, false, false, false, false, false, false, false, false, false, false, false, false, false, false, false, false, false, false, false, false, false, false, false] rfl rfl (by kernel_rfl) (fun _ _ _ h => h) (Or.inl ⟨by rfl, ?_⟩) ?_ ?_
          rotate_left
          · intro w'
            go_simp
            with_reducible rfl
          rotate_left
          · simp only [Act.put, List.setIfInBounds_toArray, List.set_cons_zero, List.set_cons_succ, i64_w, i32_w]
            rfl
          refine pure_ (i := 4) (N := some 60) (v := ?_) (a' := ?_) #[true, true, true, true, true, false, false, false, false, false, false, false, false, false, false, false, false, false, false, false, false, false, false, false, false, false, false] rfl rfl (by kernel_rfl) (fun _ _ _ h => h) (Or.inl ⟨by rfl, ?_⟩) ?_ ?_
          rotate_left
          · intro w'
            go_simp
            with_reducible rfl
          rotate_left
          · simp only [Act.put, List.setIfInBounds_toArray, List.set_cons_zero, List.set_cons_succ, i64_w, i32_w]
            rfl
          refine pure_ (i := 6) (N := some 62) (v := ?_) (a' := ?_) #[true, true, true, true, true, false, true, false, false, false, false, false, false, false, false, false, false, false, false, false, false, false, false, false, false, false, false] rfl rfl (by kernel_rfl) (fun _ _ _ h => h) (Or.inl ⟨by rfl, ?_⟩) ?_ ?_
          rotate_left
          · intro w'
            go_simp
            with_reducible rfl
          rotate_left
          · simp only [Act.put, List.setIfInBounds_toArray, List.set_cons_zero, List.set_cons_succ, i64_w, i32_w]
            rfl
          refine pure_ (i := 7) (N := some 63) (v := ?_) (a' := ?_) #[true, true, true, true, true, false, true, true, false, false, false, false, false, false, false, false, false, false, false, false, false, false, false, false, false, false, false] rfl rfl (by kernel_rfl) (fun _ _ _ h => h) (Or.inl ⟨by rfl, ?_⟩) ?_ ?_
          rotate_left
          · intro w'
            go_simp
            with_reducible rfl
          rotate_left
          · simp only [Act.put, List.setIfInBounds_toArray, List.set_cons_zero, List.set_cons_succ, i64_w, i32_w]
            rfl
          refine take_ (i := 5) (N := some 61) (v := ?_) (a' := ?_) #[true, true, true, true, true, true, true, true, false, false, false, false, false, false, false, false, false, false, false, false, false, false, false, false, false, false, false] rfl rfl (by kernel_rfl) (fun _ _ _ h => h) (Or.inl ⟨by rfl, ?_⟩) hHeld ?_ ?_
          rotate_left
          · rintro w' ⟨s0, s1, s2⟩
            go_simp
            with_reducible rfl
          rotate_left
          · simp only [Act.put, List.setIfInBounds_toArray, List.set_cons_zero, List.set_cons_succ, i64_w, i32_w]
            rfl
          refine one_ (i := 8) (N := some 64) #[true, true, true, true, true, true, true, true, true, false, false, false, false, false, false, false, false, false, false, false, false, false, false, false, false, false, false] rfl rfl (by kernel_rfl) (by decide) (fun K hK => ?_)
          refine goes_ Try.func14 (by kernel_rfl) rfl #[.agg #[.int .i64 sz, .int .i64 hp], .int .i64 x, .int .i64 le] (by rfl) rfl rfl (by (try simp only [List.map_toArray, List.map_cons, List.map_nil]); first | done | rfl) ?_
          with_reducible refine (rholds_calls _ _ _ _ _ (by omega) (by omega)).mono ?_
          rintro e w4 ⟨rfl, hb2⟩
          refine ⟨_, rfl, ?_⟩
          rw [P3b.out]
          have HB4 := Lib.hid hb2
          refine hK.out _ _ ⟨((hb2.cell (p := ⟨w.heap.size, 0, none⟩) (Nat.lt_of_lt_of_le (blk_lt BK.out) HB3.out.size)).trans hHeld.1), ((hb2.cell (p := ⟨w.heap.size, 1, none⟩) (Nat.lt_of_lt_of_le (blk_lt BK.out) HB3.out.size)).trans hHeld.2.1), ((hb2.cell (p := ⟨g, k - 1, none⟩) (Nat.lt_of_lt_of_le HGL.out HB3.out.size)).trans hHeld.2.2)⟩ (fun hHeld => ?_)
          clear hK K
          refine norm_ (a' := ?_) ?_ ?_
          rotate_left
          · show Act.put _ (some 64) _ = _
            simp only [Act.put, List.setIfInBounds_toArray, List.set_cons_zero, List.set_cons_succ, i64_w, i32_w]
            rfl
          refine pure_ (i := 9) (N := some 65) (v := ?_) (a' := ?_) #[true, true, true, true, true, true, true, true, true, true, false, false, false, false, false, false, false, false, false, false, false, false, false, false, false, false, false] rfl rfl (by kernel_rfl) (fun _ _ _ h => h) (Or.inl ⟨by rfl, ?_⟩) ?_ ?_
          rotate_left
          · intro w'
            go_simp
            with_reducible rfl
          rotate_left
          · simp only [Act.put, List.setIfInBounds_toArray, List.set_cons_zero, List.set_cons_succ, i64_w, i32_w]
            rfl
          refine pure_ (i := 10) (N := some 66) (v := ?_) (a' := ?_) #[true, true, true, true, true, true, true, true, true, true, true, false, false, false, false, false, false, false, false, false, false, false, false, false, false, false, false] rfl rfl (by kernel_rfl) (fun _ _ _ h => h) (Or.inl ⟨by rfl, ?_⟩) ?_ ?_
          rotate_left
          · intro w'
            go_simp
            with_reducible rfl
          rotate_left
          · simp only [Act.put, List.setIfInBounds_toArray, List.set_cons_zero, List.set_cons_succ, i64_w, i32_w]
            rfl
          refine pure_ (i := 11) (N := some 67) (v := ?_) (a' := ?_) #[true, true, true, true, true, true, true, true, true, true, true, true, false, false, false, false, false, false, false, false, false, false, false, false, false, false, false] rfl rfl (by kernel_rfl) (fun _ _ _ h => h) (Or.inl ⟨by rfl, ?_⟩) ?_ ?_
          rotate_left
          · intro w'
            go_simp
            with_reducible rfl
          rotate_left
          · simp only [Act.put, List.setIfInBounds_toArray, List.set_cons_zero, List.set_cons_succ, i64_w, i32_w]
            rfl
          refine pure_ (i := 12) (N := some 68) (v := ?_) (a' := ?_) #[true, true, true, true, true, true, true, true, true, true, true, true, true, false, false, false, false, false, false, false, false, false, false, false, false, false, false] rfl rfl (by kernel_rfl) (fun _ _ _ h => h) (Or.inl ⟨by rfl, ?_⟩) ?_ ?_
          rotate_left
          · intro w'
            go_simp
            with_reducible rfl
          rotate_left
          · simp only [Act.put, List.setIfInBounds_toArray, List.set_cons_zero, List.set_cons_succ, i64_w, i32_w]
            rfl
          refine pure_ (i := 13) (N := some 69) (v := ?_) (a' := ?_) #[true, true, true, true, true, true, true, true, true, true, true, true, true, true, false, false, false, false, false, false, false, false, false, false, false, false, false] rfl rfl (by kernel_rfl) (fun _ _ _ h => h) (Or.inl ⟨by rfl, ?_⟩) ?_ ?_
          rotate_left
          · intro w'
            go_simp
            with_reducible rfl
          rotate_left
          · simp only [Act.put, List.setIfInBounds_toArray, List.set_cons_zero, List.set_cons_succ, i64_w, i32_w]
            rfl
          refine pure_ (i := 14) (N := some 70) (v := ?_) (a' := ?_) #[true, true, true, true, true, true, true, true, true, true, true, true, true, true, true, false, false, false, false, false, false, false, false, false, false, false, false] rfl rfl (by kernel_rfl) (fun _ _ _ h => h) (Or.inl ⟨by rfl, ?_⟩) ?_ ?_
          rotate_left
          · intro w'
            go_simp
            with_reducible rfl
          rotate_left
          · simp only [Act.put, List.setIfInBounds_toArray, List.set_cons_zero, List.set_cons_succ, i64_w, i32_w]
            rfl
          refine pure_ (i := 15) (N := some 71) (v := ?_) (a' := ?_) #[true, true, true, true, true, true, true, true, true, true, true, true, true, true, true, true, false, false, false, false, false, false, false, false, false, false, false] rfl rfl (by kernel_rfl) (fun _ _ _ h => h) (Or.inl ⟨by rfl, ?_⟩) ?_ ?_
          rotate_left
          · intro w'
            go_simp
            with_reducible rfl
          rotate_left
          · simp only [Act.put, List.setIfInBounds_toArray, List.set_cons_zero, List.set_cons_succ, i64_w, i32_w]
            rfl
          refine pure_ (i := 16) (N := some 72) (v := ?_) (a' := ?_) #[true, true, true, true, true, true, true, true, true, true, true, true, true, true, true, true, true, false, false, false, false, false, false, false, false, false, false] rfl rfl (by kernel_rfl) (fun _ _ _ h => h) (Or.inl ⟨by rfl, ?_⟩) ?_ ?_
          rotate_left
          · intro w'
            go_simp
            with_reducible rfl
          rotate_left
          · simp only [Act.put, List.setIfInBounds_toArray, List.set_cons_zero, List.set_cons_succ, i64_w, i32_w]
            rfl
          refine pure_ (i := 17) (N := some 73) (v := ?_) (a' := ?_) #[true, true, true, true, true, true, true, true, true, true, true, true, true, true, true, true, true, true, false, false, false, false, false, false, false, false, false] rfl rfl (by kernel_rfl) (fun _ _ _ h => h) (Or.inl ⟨by rfl, ?_⟩) ?_ ?_
          rotate_left
          · intro w'
            go_simp
            with_reducible rfl
          rotate_left
          · simp only [Act.put, List.setIfInBounds_toArray, List.set_cons_zero, List.set_cons_succ, i64_w, i32_w]
            rfl
          refine pure_ (i := 18) (N := some 74) (v := ?_) (a' := ?_) #[true, true, true, true, true, true, true, true, true, true, true, true, true, true, true, true, true, true, true, false, false, false, false, false, false, false, false] rfl rfl (by kernel_rfl) (fun _ _ _ h => h) (Or.inl ⟨by rfl, ?_⟩) ?_ ?_
          rotate_left
          · intro w'
            go_simp
            with_reducible rfl
          rotate_left
          · simp only [Act.put, List.setIfInBounds_toArray, List.set_cons_zero, List.set_cons_succ, i64_w, i32_w]
            rfl
          refine pure_ (i := 19) (N := some 75) (v := ?_) (a' := ?_) #[true, true, true, true, true, true, true, true, true, true, true, true, true, true, true, true, true, true, true, true, false, false, false, false, false, false, false] rfl rfl (by kernel_rfl) (fun _ _ _ h => h) (Or.inl ⟨by rfl, ?_⟩) ?_ ?_
          rotate_left
          · intro w'
            go_simp
            with_reducible rfl
          rotate_left
          · simp only [Act.put, List.setIfInBounds_toArray, List.set_cons_zero, List.set_cons_succ, i64_w, i32_w]
            rfl
          refine pure_ (i := 21) (N := some 77) (v := ?_) (a' := ?_) #[true, true, true, true, true, true, true, true, true, true, true, true, true, true, true, true, true, true, true, true, false, true, false, false, false, false, false] rfl rfl (by kernel_rfl) (fun _ _ _ h => h) (Or.inl ⟨by rfl, ?_⟩) ?_ ?_
          rotate_left
          · intro w'
            go_simp
            with_reducible rfl
          rotate_left
          · simp only [Act.put, List.setIfInBounds_toArray, List.set_cons_zero, List.set_cons_succ, i64_w, i32_w]
            rfl
          refine take_ (i := 20) (N := some 76) (v := ?_) (a' := ?_) #[true, true, true, true, true, true, true, true, true, true, true, true, true, true, true, true, true, true, true, true, true, true, false, false, false, false, false] rfl rfl (by kernel_rfl) (fun _ _ _ h => h) (Or.inl ⟨by rfl, ?_⟩) hHeld ?_ ?_
          rotate_left
          · rintro w' ⟨s0, s1, s2⟩
            go_simp
            with_reducible rfl
          rotate_left
          · simp only [Act.put, List.setIfInBounds_toArray, List.set_cons_zero, List.set_cons_succ, i64_w, i32_w]
            rfl
          refine take_ (i := 22) (N := some 78) (v := ?_) (a' := ?_) #[true, true, true, true, true, true, true, true, true, true, true, true, true, true, true, true, true, true, true, true, true, true, true, false, false, false, false] rfl rfl (by kernel_rfl) (fun _ _ _ h => h) (Or.inl ⟨by rfl, ?_⟩) hHeld ?_ ?_
          rotate_left
          · rintro w' ⟨s0, s1, s2⟩
            go_simp
            with_reducible rfl
          rotate_left
          · simp only [Act.put, List.setIfInBounds_toArray, List.set_cons_zero, List.set_cons_succ, i64_w, i32_w]
            rfl
          refine pure_ (i := 23) (N := some 79) (v := ?_) (a' := ?_) #[true, true, true, true, true, true, true, true, true, true, true, true, true, true, true, true, true, true, true, true, true, true, true, true, false, false, false] rfl rfl (by kernel_rfl) (fun _ _ _ h => h) (Or.inl ⟨by rfl, ?_⟩) ?_ ?_
          rotate_left
          · intro w'
            go_simp
            with_reducible rfl
          rotate_left
          · simp only [Act.put, List.setIfInBounds_toArray, List.set_cons_zero, List.set_cons_succ, i64_w, i32_w]
            rfl
          refine pure_ (i := 24) (N := some 80) (v := ?_) (a' := ?_) #[true, true, true, true, true, true, true, true, true, true, true, true, true, true, true, true, true, true, true, true, true, true, true, true, true, false, false] rfl rfl (by kernel_rfl) (fun _ _ _ h => h) (Or.inl ⟨by rfl, ?_⟩) ?_ ?_
          rotate_left
          · intro w'
            go_simp
            with_reducible rfl
          rotate_left
          · simp only [Act.put, List.setIfInBounds_toArray, List.set_cons_zero, List.set_cons_succ, i64_w, i32_w]
            rfl
          refine pure_ (i := 25) (N := some 81) (v := ?_) (a' := ?_) #[true, true, true, true, true, true, true, true, true, true, true, true, true, true, true, true, true, true, true, true, true, true, true, true, true, true, false] rfl rfl (by kernel_rfl) (fun _ _ _ h => h) (Or.inl ⟨by rfl, ?_⟩) ?_ ?_
          rotate_left
          · intro w'
            go_simp
            with_reducible rfl
          rotate_left
          · simp only [Act.put, List.setIfInBounds_toArray, List.set_cons_zero, List.set_cons_succ, i64_w, i32_w]
            rfl
          refine pure_ (i := 26) (N := some 82) (v := ?_) (a' := ?_) #[true, true, true, true, true, true, true, true, true, true, true, true, true, true, true, true, true, true, true, true, true, true, true, true, true, true, true] rfl rfl (by kernel_rfl) (fun _ _ _ h => h) (Or.inl ⟨by rfl, ?_⟩) ?_ ?_
          rotate_left
          · intro w'
            go_simp
            with_reducible rfl
          rotate_left
          · simp only [Act.put, List.setIfInBounds_toArray, List.set_cons_zero, List.set_cons_succ, i64_w, i32_w]
            rfl
          refine done_ (by kernel_rfl) ?_
          clear hb hb2 hHeld c0 c1 cg cg1 hi1 hi2 hi3 hi4 hi5
          have HBx : Hid (Below wr.heap.size wr w4) := ((Below.refl wr.heap.size wr).drew.trans HB3.out).trans (HB4.out.mono HB3.out.size)
          go_wp2
          go_roundg (n - (k + 1))
          case measure => omega
          case rel => exact ⟨k + 1, by omega, by go_num, HB.out.trans (HBx.out.mono HB.out.size), blk_below BK.out HBx.out (blk_lt BK.out), fun i hi => (HBx.out.cell HGL.out).trans (HC.out i hi), Nat.lt_of_lt_of_le HGL.out HBx.out.size⟩
      · obtain rfl : k = n := by omega
        obtain ⟨le, hle⟩ : ∃ le, le = fst + ((k : Int) - 1) * hp := ⟨_, rfl⟩
        have hle2 : le + hp = fst + (k : Int) * hp := by rw [hle, Int.sub_mul]; omega
        have hl2 : le ≤ 2199023255552 := by
          have := P8.out (k - 1) (by omega)
          rw [show ((k - 1 : Nat) : Int) = (k : Int) - 1 from by omega] at this; omega
        have hl1 : 1 ≤ le := by have := Int.mul_nonneg (a := (k : Int) - 1) (b := hp) (by omega) (by omega); omega
        have cg0 : wr.cell? ⟨g, 0, none⟩ = some (.int .i64 fst) := by rw [HC.out 0 hn]; simp
        have cg1 : wr.cell? ⟨g, k - 1, none⟩ = some (.int .i64 le) := by rw [HC.out (k - 1) (by omega), hle, show ((k - 1 : Nat) : Int) = (k : Int) - 1 from by omega]
        have P5 := P5.out
        rw [← hle2] at P5
        have P5 := Lib.hid P5
        clear hle hle2
        go_wp2_with fail
        go_quiet (fail)
        go_wp2_with fail
        refine (rholds_calls _ _ _ _ _ (by omega) (by omega)).mono ?_
        rintro e w3 ⟨rfl, hb⟩
        rw [P4.out]
        have BK : Hid ((wr.drewN nq).heap[w.heap.size]? = some (.cells #[.int .i64 sz, .int .i64 hp] 23 (0, 0))) := BK.out
        have HB : Hid (Below w.heap.size w (wr.drewN nq)) := below_drewN HB.out nq
        have BK : Hid (w3.heap[w.heap.size]? = some (.cells #[.int .i64 sz, .int .i64 hp] 23 (0, 0))) := blk_below BK.out hb (blk_lt BK.out)
        have HB : Hid (Below w.heap.size w w3) := HB.out.trans ((show Below _ _ _ from hb).mono HB.out.size)
        have c0 : w3.cell? ⟨w.heap.size, 0, none⟩ = some (.int .i64 sz) := blk_cell BK.out 0
        have c1 : w3.cell? ⟨w.heap.size, 1, none⟩ = some (.int .i64 hp) := blk_cell BK.out 1
        clear hb
        go_wp2_with fail
        refine (rholds_calls _ _ _ _ _ (by omega) (by omega)).mono ?_
        rintro e w4 ⟨rfl, hb⟩
        rw [P5.out]
        have BK : Hid (w4.heap[w.heap.size]? = some (.cells #[.int .i64 sz, .int .i64 hp] 23 (0, 0))) := blk_below BK.out hb (blk_lt BK.out)
        have HB : Hid (Below w.heap.size w w4) := HB.out.trans ((show Below _ _ _ from hb).mono HB.out.size)
        have c0 : w4.cell? ⟨w.heap.size, 0, none⟩ = some (.int .i64 sz) := blk_cell BK.out 0
        have c1 : w4.cell? ⟨w.heap.size, 1, none⟩ = some (.int .i64 hp) := blk_cell BK.out 1
        clear hb
        go_wp2_with fail
        refine (awake_calls _).mono ?_
        rintro e w5 ⟨rfl, hb⟩
        have BK : Hid (w5.heap[w.heap.size]? = some (.cells #[.int .i64 sz, .int .i64 hp] 23 (0, 0))) := blk_below BK.out hb (blk_lt BK.out)
        have HB : Hid (Below w.heap.size w w5) := HB.out.trans ((show Below _ _ _ from hb).mono HB.out.size)
        have c0 : w5.cell? ⟨w.heap.size, 0, none⟩ = some (.int .i64 sz) := blk_cell BK.out 0
        have c1 : w5.cell? ⟨w.heap.size, 1, none⟩ = some (.int .i64 hp) := blk_cell BK.out 1
        clear hb
        go_wp2
        go_ret
        exact ⟨rfl, HB.out⟩
end Go.Proofs.Ytgmbbjkkmgooiaa
