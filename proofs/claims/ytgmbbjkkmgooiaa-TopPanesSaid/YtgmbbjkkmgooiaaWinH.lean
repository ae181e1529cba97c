/- WindowMays: the law's function returns true, by a walk. No condition. -/
import Derived.Test.YtgmbbjkkmgooiaaWinG
set_option linter.unusedVariables false
set_option linter.unusedSimpArgs false
namespace Go.Proofs.Ytgmbbjkkmgooiaa
open Go.Maps Go.MapKept Go.RowKit Go.ChangeMaps CK Go.Proofs.YtgmbbjkkmgooiaaW.PrintLast

def abvI (hop first : Int) (n : Nat) : List Int := (List.range n).map fun (i : Nat) => first + (i : Int) * hop
theorem abv_map (hop first : Int) (n : Nat) : abv hop first n = (abvI hop first n).map (Value.int .i64) := by simp [abv, abvI, Function.comp_def]
/-- the ends above f, up to t -/
def EndsOf (sz hp f t : Int) (l : List Int) : Prop :=
  if mayB sz hp 1 = true ∧ f < 2199023255552 then ∃ n, l = abvI hp (firstE f hp) n ∧ (∀ i, i < n → more (endsStay t) hp (firstE f hp) i) ∧ ¬ more (endsStay t) hp (firstE f hp) n else l = []
theorem EndsOf.one {sz hp f t : Int} {l1 l2 : List Int} (h1 : EndsOf sz hp f t l1) (h2 : EndsOf sz hp f t l2) : l1 = l2 := by
  unfold EndsOf at h1 h2
  split at h1
  · rename_i hc
    rw [if_pos hc] at h2
    obtain ⟨n, rfl, a1, a2⟩ := h1
    obtain ⟨m, rfl, b1, b2⟩ := h2
    have : n = m := by
      rcases Nat.lt_trichotomy n m with h | h | h
      · exact absurd (b1 n h) a2
      · exact h
      · exact absurd (a1 m h) b2
    rw [this]
  · rename_i hc
    rw [if_neg hc] at h2
    rw [h1, h2]
def EndsRes (w : World) (sz hp f t : Int) (e : Ending) (w' : World) : Prop := ∃ l v, e = .returned v ∧ IntsAt w' l v ∧ EndsOf sz hp f t l ∧ Below w.heap.size w w'
theorem endsRes_of {w w' : World} {sz hp f t : Int} {e : Ending} (h : EndsPost w hp f t e w') (hm : mayB sz hp 1 = true) (hf : f ≤ 2199023255552) : EndsRes w sz hp f t e w' := by
  obtain ⟨n, v, h1, h2, h3, h4, h5⟩ := h
  refine ⟨abvI hp (firstE f hp) n, v, h1, ints_of_own (by rw [abv_map] at h2; exact h2), ?_, h5⟩
  unfold EndsOf
  split
  · exact ⟨n, rfl, h3, h4⟩
  · rename_i hc
    rw [hm] at hc
    have : f = 2199023255552 := by simp at hc; omega
    have hn : n = 0 := by
      rcases Nat.eq_zero_or_pos n with h | h
      · exact h
      · have h6 := (h3 0 h).1
        obtain ⟨_, _, _, _, g1, g2, _⟩ := mayB_facts hm
        have : firstE f hp > f := by
          unfold firstE
          split
          · have := Int.lt_ediv_add_one_mul_self f (b := hp) (by omega); omega
          · omega
        simp at h6; omega
    subst hn; rfl
theorem ends_any (w : World) (sz hp f t : Int) : Calls Try.prog 17 #[.agg #[.int .i64 sz, .int .i64 hp], .int .i64 f, .int .i64 t] w (EndsRes w sz hp f t) := by
  by_cases h : mayB sz hp 1 = true ∧ f < 2199023255552
  · exact (ends_calls w sz hp f t h.1 h.2).mono fun e w' hp' => endsRes_of hp' h.1 (by omega)
  · refine (ends_no w sz hp f t ?_).mono fun e w' hp' => ⟨[], _, hp'.1, .inl ⟨rfl, _, _, rfl, Nat.zero_le _⟩, by unfold EndsOf; rw [if_neg h], hp'.2⟩
    cases hm : mayB sz hp 1
    · exact .inl rfl
    · right; rw [hm] at h; simp at h; exact h
theorem rends_any (w : World) (sz hp f t : Int) : Calls Try.prog 18 #[.agg #[.int .i64 sz, .int .i64 hp], .int .i64 f, .int .i64 t] w (EndsRes w sz hp f t) := by
  by_cases h : mayB sz hp 1 = true ∧ f ≤ 2199023255552
  · exact (rends_calls w sz hp f t h.1 h.2).mono fun e w' hp' => endsRes_of hp' h.1 h.2
  · refine (rends_no w sz hp f t ?_).mono fun e w' ⟨v, h1, h2, h3⟩ => ⟨[], v, h1, h2, by unfold EndsOf; rw [if_neg (fun h' => h ⟨h'.1, by omega⟩)], h3⟩
    cases hm : mayB sz hp 1
    · exact .inl rfl
    · right; rw [hm] at h; simp at h; exact h

theorem law_mays (s : Spec) (wd f t : Int) (w : World) (hs : s.ok) (h1 : (Lit.int .i64 wd).wf = true) (h2 : (Lit.int .i64 f).wf = true) (h3 : (Lit.int .i64 t).wf = true) :
    Calls Try.prog 4 #[.agg s.cs.toArray, .int .i64 wd, .int .i64 f, .int .i64 t] w (BoolPost w true) := by
  obtain ⟨sz, hp⟩ := s
  show Calls Try.prog _ #[.agg #[.int .i64 sz, .int .i64 hp], _, _, _] _ _
  clear h1 h2 h3 hs
  have BK : Hid ((w.alloc (.cells #[.int .i64 sz, .int .i64 hp] 23)).heap[w.heap.size]? = some (.cells #[.int .i64 sz, .int .i64 hp] 23 (0, 0))) := blk_new w _
  have HB : Hid (Below w.heap.size w ((w.alloc (.cells #[.int .i64 sz, .int .i64 hp] 23)).drew)) := ((Below.refl _ w).alloc (Nat.le_refl _) _).drew
  go_enter Try.func4, Try.ntmps4
  go_wp2_with fail
  have BK : Hid ((w.alloc (.cells #[.int .i64 sz, .int .i64 hp] 23)).drew.heap[w.heap.size]? = some (.cells #[.int .i64 sz, .int .i64 hp] 23 (0, 0))) := blk_new w _
  refine start_ (n := 22) (S := fun w' => w'.cell? ⟨w.heap.size, 0, none⟩ = some (.int .i64 sz) ∧ w'.cell? ⟨w.heap.size, 1, none⟩ = some (.int .i64 hp)) (ds := []) #[false, false, false, false, false, false, false, false, false, false, false, false, false, false, false, false, false, false, false, false, false, false] (by kernel_rfl) rfl rfl ⟨(blk_cell BK.out 0), (blk_cell BK.out 1)⟩ (fun hHeld => ?_)
  refine pure_ (i := 1) (N := some 10) (v := ?_) (a' := ?_) #[false, true, false, false, false, false, false, false, false, false, false, false, false, false, false, false, false, false, false, false, false, false] rfl rfl (by kernel_rfl) (fun _ _ _ h => h) (Or.inl ⟨by rfl, ?_⟩) ?_ ?_
  rotate_left
  · intro w'
    go_simp
    with_reducible rfl
  rotate_left
  · simp only [Act.put, List.setIfInBounds_toArray, List.set_cons_zero, List.set_cons_succ, i64_w, i32_w]
    rfl
  refine pure_ (i := 4) (N := some 13) (v := ?_) (a' := ?_) #[false, true, false, false, true, false, false, false, false, false, false, false, false, false, false, false, false, false, false, false, false, false] rfl rfl (by kernel_rfl) (fun _ _ _ h => h) (Or.inl ⟨by rfl, ?_⟩) ?_ ?_
  rotate_left
  · intro w'
    go_simp
    with_reducible rfl
  rotate_left
  · simp only [Act.put, List.setIfInBounds_toArray, List.set_cons_zero, List.set_cons_succ, i64_w, i32_w]
    rfl
  refine take_ (i := 0) (N := some 9) (v := ?_) (a' := ?_) #[true, true, false, false, true, false, false, false, false, false, false, false, false, false, false, false, false, false, false, false, false, false] rfl rfl (by kernel_rfl) (fun _ _ _ h => h) (Or.inl ⟨by rfl, ?_⟩) hHeld ?_ ?_
  rotate_left
  · rintro w' ⟨s0, s1⟩
    go_simp
    with_reducible rfl
  rotate_left
  · simp only [Act.put, List.setIfInBounds_toArray, List.set_cons_zero, List.set_cons_succ, i64_w, i32_w]
    rfl
  refine take_ (i := 3) (N := some 12) (v := ?_) (a' := ?_) #[true, true, false, true, true, false, false, false, false, false, false, false, false, false, false, false, false, false, false, false, false, false] rfl rfl (by kernel_rfl) (fun _ _ _ h => h) (Or.inl ⟨by rfl, ?_⟩) hHeld ?_ ?_
  rotate_left
  · rintro w' ⟨s0, s1⟩
    go_simp
    with_reducible rfl
  rotate_left
  · simp only [Act.put, List.setIfInBounds_toArray, List.set_cons_zero, List.set_cons_succ, i64_w, i32_w]
    rfl
  refine one_ (i := 2) (N := some 11) #[true, true, true, true, true, false, false, false, false, false, false, false, false, false, false, false, false, false, false, false, false, false] rfl rfl (by kernel_rfl) (by decide) (fun K hK => ?_)
  refine goes_ Try.func15 (by kernel_rfl) rfl #[.agg #[.int .i64 sz, .int .i64 hp], .int .i64 wd] (by rfl) rfl rfl (by (try simp only [List.map_toArray, List.map_cons, List.map_nil]); first | done | rfl) ?_
  with_reducible refine (may_calls _ _ _ _).mono ?_
  rintro e w1 ⟨rfl, hb⟩
  refine ⟨_, rfl, ?_⟩
  have HB := Lib.hid (HB.out.trans ((show Below _ _ _ from hb).mono HB.out.size))
  have BK := Lib.hid (blk_below BK.out hb (blk_lt BK.out))
  refine hK.out _ _ ⟨(blk_cell BK.out 0), (blk_cell BK.out 1)⟩ (fun hHeld => ?_)
  clear hK K
  refine norm_ (a' := ?_) ?_ ?_
  rotate_left
  · show Act.put _ (some 11) _ = _
    simp only [Act.put, List.setIfInBounds_toArray, List.set_cons_zero, List.set_cons_succ, i64_w, i32_w]
    rfl
  refine one_ (i := 5) (N := some 14) #[true, true, true, true, true, true, false, false, false, false, false, false, false, false, false, false, false, false, false, false, false, false] rfl rfl (by kernel_rfl) (by decide) (fun K hK => ?_)
  refine goes_ Try.func11 (by kernel_rfl) rfl #[.agg #[.int .i64 sz, .int .i64 hp], .int .i64 wd] (by rfl) rfl rfl (by (try simp only [List.map_toArray, List.map_cons, List.map_nil]); first | done | rfl) ?_
  with_reducible refine (rmay_calls _ _ _ _).mono ?_
  rintro e w2 ⟨rfl, hb⟩
  refine ⟨_, rfl, ?_⟩
  have HB := Lib.hid (HB.out.trans ((show Below _ _ _ from hb).mono HB.out.size))
  have BK := Lib.hid (blk_below BK.out hb (blk_lt BK.out))
  refine hK.out _ _ ⟨(blk_cell BK.out 0), (blk_cell BK.out 1)⟩ (fun hHeld => ?_)
  clear hK K
  refine norm_ (a' := ?_) ?_ ?_
  rotate_left
  · show Act.put _ (some 14) _ = _
    simp only [Act.put, List.setIfInBounds_toArray, List.set_cons_zero, List.set_cons_succ, i64_w, i32_w]
    rfl
  refine pure_ (i := 6) (N := some 15) (v := ?_) (a' := ?_) #[true, true, true, true, true, true, true, false, false, false, false, false, false, false, false, false, false, false, false, false, false, false] rfl rfl (by kernel_rfl) (fun _ _ _ h => h) (Or.inl ⟨by rfl, ?_⟩) ?_ ?_
  rotate_left
  · intro w'
    go_simp
    with_reducible rfl
  rotate_left
  · simp only [Act.put, List.setIfInBounds_toArray, List.set_cons_zero, List.set_cons_succ, i64_w, i32_w]
    rfl
  refine pure_ (i := 7) (N := some 16) (v := ?_) (a' := ?_) #[true, true, true, true, true, true, true, true, false, false, false, false, false, false, false, false, false, false, false, false, false, false] rfl rfl (by kernel_rfl) (fun _ _ _ h => h) (Or.inl ⟨by rfl, ?_⟩) ?_ ?_
  rotate_left
  · intro w'
    go_simp
    with_reducible rfl
  rotate_left
  · simp only [Act.put, List.setIfInBounds_toArray, List.set_cons_zero, List.set_cons_succ, i64_w, i32_w]
    rfl
  refine pure_ (i := 9) (N := some 18) (v := ?_) (a' := ?_) #[true, true, true, true, true, true, true, true, false, true, false, false, false, false, false, false, false, false, false, false, false, false] rfl rfl (by kernel_rfl) (fun _ _ _ h => h) (Or.inl ⟨by rfl, ?_⟩) ?_ ?_
  rotate_left
  · intro w'
    go_simp
    with_reducible rfl
  rotate_left
  · simp only [Act.put, List.setIfInBounds_toArray, List.set_cons_zero, List.set_cons_succ, i64_w, i32_w]
    rfl
  refine pure_ (i := 10) (N := some 19) (v := ?_) (a' := ?_) #[true, true, true, true, true, true, true, true, false, true, true, false, false, false, false, false, false, false, false, false, false, false] rfl rfl (by kernel_rfl) (fun _ _ _ h => h) (Or.inl ⟨by rfl, ?_⟩) ?_ ?_
  rotate_left
  · intro w'
    go_simp
    with_reducible rfl
  rotate_left
  · simp only [Act.put, List.setIfInBounds_toArray, List.set_cons_zero, List.set_cons_succ, i64_w, i32_w]
    rfl
  refine pure_ (i := 13) (N := some 22) (v := ?_) (a' := ?_) #[true, true, true, true, true, true, true, true, false, true, true, false, false, true, false, false, false, false, false, false, false, false] rfl rfl (by kernel_rfl) (fun _ _ _ h => h) (Or.inl ⟨by rfl, ?_⟩) ?_ ?_
  rotate_left
  · intro w'
    go_simp
    with_reducible rfl
  rotate_left
  · simp only [Act.put, List.setIfInBounds_toArray, List.set_cons_zero, List.set_cons_succ, i64_w, i32_w]
    rfl
  refine pure_ (i := 14) (N := some 23) (v := ?_) (a' := ?_) #[true, true, true, true, true, true, true, true, false, true, true, false, false, true, true, false, false, false, false, false, false, false] rfl rfl (by kernel_rfl) (fun _ _ _ h => h) (Or.inl ⟨by rfl, ?_⟩) ?_ ?_
  rotate_left
  · intro w'
    go_simp
    with_reducible rfl
  rotate_left
  · simp only [Act.put, List.setIfInBounds_toArray, List.set_cons_zero, List.set_cons_succ, i64_w, i32_w]
    rfl
  refine take_ (i := 8) (N := some 17) (v := ?_) (a' := ?_) #[true, true, true, true, true, true, true, true, true, true, true, false, false, true, true, false, false, false, false, false, false, false] rfl rfl (by kernel_rfl) (fun _ _ _ h => h) (Or.inl ⟨by rfl, ?_⟩) hHeld ?_ ?_
  rotate_left
  · rintro w' ⟨s0, s1⟩
    go_simp
    with_reducible rfl
  rotate_left
  · simp only [Act.put, List.setIfInBounds_toArray, List.set_cons_zero, List.set_cons_succ, i64_w, i32_w]
    rfl
  refine take_ (i := 12) (N := some 21) (v := ?_) (a' := ?_) #[true, true, true, true, true, true, true, true, true, true, true, false, true, true, true, false, false, false, false, false, false, false] rfl rfl (by kernel_rfl) (fun _ _ _ h => h) (Or.inl ⟨by rfl, ?_⟩) hHeld ?_ ?_
  rotate_left
  · rintro w' ⟨s0, s1⟩
    go_simp
    with_reducible rfl
  rotate_left
  · simp only [Act.put, List.setIfInBounds_toArray, List.set_cons_zero, List.set_cons_succ, i64_w, i32_w]
    rfl
  refine one_ (i := 11) (N := some 20) #[true, true, true, true, true, true, true, true, true, true, true, true, true, true, true, false, false, false, false, false, false, false] rfl rfl (by kernel_rfl) (by decide) (fun K hK => ?_)
  refine goes_ Try.func17 (by kernel_rfl) rfl #[.agg #[.int .i64 sz, .int .i64 hp], .int .i64 f, .int .i64 t] (by rfl) rfl rfl (by (try simp only [List.map_toArray, List.map_cons, List.map_nil]); first | done | rfl) ?_
  with_reducible refine (ends_any _ _ _ _ _).mono ?_
  rintro e w3 ⟨l1, v1, rfl, hi1, he1, hb⟩
  refine ⟨_, rfl, ?_⟩
  have HB := Lib.hid (HB.out.trans ((show Below _ _ _ from hb).mono HB.out.size))
  have BK := Lib.hid (blk_below BK.out hb (blk_lt BK.out))
  have HI1 := Lib.hid hi1
  have HE1 := Lib.hid he1
  clear hi1 he1
  refine hK.out _ _ ⟨(blk_cell BK.out 0), (blk_cell BK.out 1)⟩ (fun hHeld => ?_)
  clear hK K
  refine norm_ (a' := ?_) ?_ ?_
  rotate_left
  · show Act.put _ (some 20) _ = _
    simp only [Act.put, List.setIfInBounds_toArray, List.set_cons_zero, List.set_cons_succ, i64_w, i32_w]
    rfl
  refine one_ (i := 15) (N := some 24) #[true, true, true, true, true, true, true, true, true, true, true, true, true, true, true, true, false, false, false, false, false, false] rfl rfl (by kernel_rfl) (by decide) (fun K hK => ?_)
  refine goes_ Try.func18 (by kernel_rfl) rfl #[.agg #[.int .i64 sz, .int .i64 hp], .int .i64 f, .int .i64 t] (by rfl) rfl rfl (by (try simp only [List.map_toArray, List.map_cons, List.map_nil]); first | done | rfl) ?_
  with_reducible refine (rends_any _ _ _ _ _).mono ?_
  rintro e w4 ⟨l2, v2, rfl, hi2, he2, hb⟩
  refine ⟨_, rfl, ?_⟩
  have HI1 := Lib.hid (HI1.out.below hb)
  have HB := Lib.hid (HB.out.trans ((show Below _ _ _ from hb).mono HB.out.size))
  have BK := Lib.hid (blk_below BK.out hb (blk_lt BK.out))
  have HI2 := Lib.hid hi2
  have HE2 := Lib.hid he2
  clear hi2 he2
  refine hK.out _ _ ⟨(blk_cell BK.out 0), (blk_cell BK.out 1)⟩ (fun hHeld => ?_)
  clear hK K
  refine norm_ (a' := ?_) ?_ ?_
  rotate_left
  · show Act.put _ (some 24) _ = _
    simp only [Act.put, List.setIfInBounds_toArray, List.set_cons_zero, List.set_cons_succ, i64_w, i32_w]
    rfl
  refine one_ (i := 16) (N := some 25) #[true, true, true, true, true, true, true, true, true, true, true, true, true, true, true, true, true, false, false, false, false, false] rfl rfl (by kernel_rfl) (by decide) (fun K hK => ?_)
  refine goes_ Try.func16 (by kernel_rfl) rfl #[v1, v2] (by rfl) rfl rfl (by (try simp only [List.map_toArray, List.map_cons, List.map_nil]); first | done | rfl) ?_
  with_reducible refine (same_calls _ l1 l2 _ _ HI1.out HI2.out).mono ?_
  rintro e w5 ⟨rfl, hb⟩
  refine ⟨_, rfl, ?_⟩
  rw [decide_eq_true (HE1.out.one HE2.out)]
  have HB := Lib.hid (HB.out.trans ((show Below _ _ _ from hb).mono HB.out.size))
  have BK := Lib.hid (blk_below BK.out hb (blk_lt BK.out))
  refine hK.out _ _ ⟨(blk_cell BK.out 0), (blk_cell BK.out 1)⟩ (fun hHeld => ?_)
  clear hK K
  refine norm_ (a' := ?_) ?_ ?_
  rotate_left
  · show Act.put _ (some 25) _ = _
    simp only [Act.put, List.setIfInBounds_toArray, List.set_cons_zero, List.set_cons_succ, i64_w, i32_w]
    rfl
  refine pure_ (i := 17) (N := some 26) (v := ?_) (a' := ?_) #[true, true, true, true, true, true, true, true, true, true, true, true, true, true, true, true, true, true, false, false, false, false] rfl rfl (by kernel_rfl) (fun _ _ _ h => h) (Or.inl ⟨by rfl, ?_⟩) ?_ ?_
  rotate_left
  · intro w'
    go_simp
    with_reducible rfl
  rotate_left
  · simp only [Act.put, List.setIfInBounds_toArray, List.set_cons_zero, List.set_cons_succ, i64_w, i32_w]
    rfl
  refine pure_ (i := 18) (N := some 27) (v := ?_) (a' := ?_) #[true, true, true, true, true, true, true, true, true, true, true, true, true, true, true, true, true, true, true, false, false, false] rfl rfl (by kernel_rfl) (fun _ _ _ h => h) (Or.inl ⟨by rfl, ?_⟩) ?_ ?_
  rotate_left
  · intro w'
    go_simp
    with_reducible rfl
  rotate_left
  · simp only [Act.put, List.setIfInBounds_toArray, List.set_cons_zero, List.set_cons_succ, i64_w, i32_w]
    rfl
  refine one_ (i := 19) (N := some 28) #[true, true, true, true, true, true, true, true, true, true, true, true, true, true, true, true, true, true, true, true, false, false] rfl rfl (by kernel_rfl) (by decide) (fun K hK => ?_)
  refine goes_ Try.func12 (by kernel_rfl) rfl #[] (by rfl) rfl rfl (by (try simp only [List.map_toArray, List.map_cons, List.map_nil]); first | done | rfl) ?_
  with_reducible refine (awake_calls _).mono ?_
  rintro e w6 ⟨rfl, hb⟩
  refine ⟨_, rfl, ?_⟩
  have HB := Lib.hid (HB.out.trans ((show Below _ _ _ from hb).mono HB.out.size))
  have BK := Lib.hid (blk_below BK.out hb (blk_lt BK.out))
  refine hK.out _ _ ⟨(blk_cell BK.out 0), (blk_cell BK.out 1)⟩ (fun hHeld => ?_)
  clear hK K
  refine norm_ (a' := ?_) ?_ ?_
  rotate_left
  · show Act.put _ (some 28) _ = _
    simp only [Act.put, List.setIfInBounds_toArray, List.set_cons_zero, List.set_cons_succ, i64_w, i32_w]
    rfl
  refine pure_ (i := 20) (N := some 29) (v := ?_) (a' := ?_) #[true, true, true, true, true, true, true, true, true, true, true, true, true, true, true, true, true, true, true, true, true, false] rfl rfl (by kernel_rfl) (fun _ _ _ h => h) (Or.inl ⟨by rfl, ?_⟩) ?_ ?_
  rotate_left
  · intro w'
    go_simp
    with_reducible rfl
  rotate_left
  · simp only [Act.put, List.setIfInBounds_toArray, List.set_cons_zero, List.set_cons_succ, i64_w, i32_w]
    rfl
  refine pure_ (i := 21) (N := some 8) (v := ?_) (a' := ?_) #[true, true, true, true, true, true, true, true, true, true, true, true, true, true, true, true, true, true, true, true, true, true] rfl rfl (by kernel_rfl) (fun _ _ _ h => h) (Or.inl ⟨by rfl, ?_⟩) ?_ ?_
  rotate_left
  · intro w'
    go_simp
    with_reducible rfl
  rotate_left
  · simp only [Act.put, List.setIfInBounds_toArray, List.set_cons_zero, List.set_cons_succ, i64_w, i32_w]
    rfl
  refine done_ (by kernel_rfl) ?_
  go_wp2
  go_ret
  exact ⟨rfl, HB.out⟩
end Go.Proofs.Ytgmbbjkkmgooiaa
