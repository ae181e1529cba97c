/- WindowAts: the law's function returns true, by a walk. No condition. -/
import Derived.Test.YtgmbbjkkmgooiaaWinJ
set_option linter.unusedVariables false
set_option linter.unusedSimpArgs false
namespace Go.Proofs.Ytgmbbjkkmgooiaa
open Go.Maps Go.MapKept Go.RowKit Go.ChangeMaps CK Go.Proofs.YtgmbbjkkmgooiaaW.PrintLast

theorem longB_false {l : List Add} (h : longB l = false) : l.length ≤ 60 := by
  simp only [longB, Bool.or_eq_false_iff, decide_eq_false_iff_not] at h; omega

set_option maxHeartbeats 1000000 in
theorem law_ats (n : Int) (l : List Add) (v : Value) (s : Spec) (key : ByteArray) (e : Int) (w : World) (h0 : (Lit.int .i64 n).wf = true) (hl : AddsAt w l v) (hs : s.ok) (hk : key.size ≤ 140737488351232) (he : (Lit.int .i64 e).wf = true) :
    Calls Try.prog 5 #[.int .i64 n, v, .agg s.cs.toArray, .string key, .int .i64 e] w (BoolPost w true) := by
  obtain ⟨sz, hp⟩ := s
  show Calls Try.prog _ #[_, _, .agg #[.int .i64 sz, .int .i64 hp], _, _] _ _
  clear h0 hs he
  have BK : Hid ((w.alloc (.cells #[.int .i64 sz, .int .i64 hp] 23)).heap[w.heap.size]? = some (.cells #[.int .i64 sz, .int .i64 hp] 23 (0, 0))) := blk_new w _
  have HB : Hid (Below w.heap.size w (w.alloc (.cells #[.int .i64 sz, .int .i64 hp] 23))) := (Below.refl _ w).alloc (Nat.le_refl _) _
  have HL := Lib.hid (hl.below ((Below.refl _ w).alloc (Nat.le_refl _) (.cells #[.int .i64 sz, .int .i64 hp] 23)))
  clear hl
  cases hlong : longB l
  · have hlen := longB_false hlong
    have HLo := Lib.hid hlong
    clear hlong
    by_cases hks : 60 < key.size
    · go_enter Try.func5, Try.ntmps5
      go_wp2_with fail
      refine (long_calls _ l _ HL.out).mono ?_
      rintro e' w1 ⟨rfl, hb⟩
      rw [HLo.out]
      have HB := Lib.hid (HB.out.trans ((show Below _ _ _ from hb).mono HB.out.size))
      have BK := Lib.hid (blk_below BK.out hb (blk_lt BK.out))
      clear hb
      go_wp2_with fail
      refine (awake_calls _).mono ?_
      rintro e' w2 ⟨rfl, hb⟩
      have HB := Lib.hid (HB.out.trans ((show Below _ _ _ from hb).mono HB.out.size))
      have BK := Lib.hid (blk_below BK.out hb (blk_lt BK.out))
      clear hb
      go_wp2
      go_ret
      exact ⟨rfl, HB.out⟩
    · go_enter Try.func5, Try.ntmps5
      go_wp2_with fail
      refine (long_calls _ l _ HL.out).mono ?_
      rintro e' w1 ⟨rfl, hb⟩
      rw [HLo.out]
      have HL := Lib.hid (HL.out.below hb)
      have HB := Lib.hid (HB.out.trans ((show Below _ _ _ from hb).mono HB.out.size))
      have BK := Lib.hid (blk_below BK.out hb (blk_lt BK.out))
      clear hb
      go_wp2_with fail
      refine (fill_calls _ n l _ HL.out hlen).mono ?_
      rintro e' w2 ⟨p, pb, rfl, hp1, hp2, hp3, hb⟩
      have HL := Lib.hid (HL.out.below hb)
      have HP := Lib.hid hp1
      clear hp1 hp2 hp3
      have HB := Lib.hid (HB.out.trans ((show Below _ _ _ from hb).mono HB.out.size))
      have BK := Lib.hid (blk_below BK.out hb (blk_lt BK.out))
      clear hb
      go_wp2_with fail
      obtain ⟨wd, hwd⟩ : ∃ wd, wd = min (max n 1) 1099511627776 := ⟨_, rfl⟩
      rw [← hwd] at HP
      have HWD := Lib.hid hwd
      clear hwd
      have HB := Lib.hid HB.out.drew
      have BKd : Hid (w2.drew.heap[w.heap.size]? = some (.cells #[.int .i64 sz, .int .i64 hp] 23 (0, 0))) := BK.out
      have BK := BKd
      obtain ⟨val, hval⟩ : ∃ val, (if mayB sz hp wd && endB hp e then atSum l sz e key else 0) = val := ⟨_, rfl⟩
      have HV := Lib.hid hval
      clear hval
      have HPd : Hid (PanesAt w2.drew p wd (cntOf l) pb (sumsOf wd l)) := HP.out.below (Below.refl _ _).drew
      have HP := HPd
      have HLd : Hid (AddsAt w2.drew l v) := HL.out.below (Below.refl _ _).drew
      have HL := HLd
      refine start_ (n := 24) (S := fun w' => w'.cell? ⟨w.heap.size, 0, none⟩ = some (.int .i64 sz) ∧ w'.cell? ⟨w.heap.size, 1, none⟩ = some (.int .i64 hp)) (ds := []) #[false, false, false, false, false, false, false, false, false, false, false, false, false, false, false, false, false, false, false, false, false, false, false, false] (by kernel_rfl) rfl rfl ⟨(blk_cell BK.out 0), (blk_cell BK.out 1)⟩ (fun hHeld => ?_)
      refine pure_ (i := 0) (N := some 25) (v := ?_) (a' := ?_) #[true, false, false, false, false, false, false, false, false, false, false, false, false, false, false, false, false, false, false, false, false, false, false, false] rfl rfl (by kernel_rfl) (fun _ _ _ h => h) (Or.inl ⟨by rfl, ?_⟩) ?_ ?_
      rotate_left
      · intro w'
        go_simp
        with_reducible rfl
      rotate_left
      · simp only [Act.put, List.setIfInBounds_toArray, List.set_cons_zero, List.set_cons_succ, i64_w, i32_w]
        rfl
      refine pure_ (i := 2) (N := some 27) (v := ?_) (a' := ?_) #[true, false, true, false, false, false, false, false, false, false, false, false, false, false, false, false, false, false, false, false, false, false, false, false] rfl rfl (by kernel_rfl) (fun _ _ _ h => h) (Or.inl ⟨by rfl, ?_⟩) ?_ ?_
      rotate_left
      · intro w'
        go_simp
        with_reducible rfl
      rotate_left
      · simp only [Act.put, List.setIfInBounds_toArray, List.set_cons_zero, List.set_cons_succ, i64_w, i32_w]
        rfl
      refine pure_ (i := 3) (N := some 28) (v := ?_) (a' := ?_) #[true, false, true, true, false, false, false, false, false, false, false, false, false, false, false, false, false, false, false, false, false, false, false, false] rfl rfl (by kernel_rfl) (fun _ _ _ h => h) (Or.inl ⟨by rfl, ?_⟩) ?_ ?_
      rotate_left
      · intro w'
        go_simp
        with_reducible rfl
      rotate_left
      · simp only [Act.put, List.setIfInBounds_toArray, List.set_cons_zero, List.set_cons_succ, i64_w, i32_w]
        rfl
      refine pure_ (i := 5) (N := some 30) (v := ?_) (a' := ?_) #[true, false, true, true, false, true, false, false, false, false, false, false, false, false, false, false, false, false, false, false, false, false, false, false] rfl rfl (by kernel_rfl) (fun _ _ _ h => h) (Or.inl ⟨by rfl, ?_⟩) ?_ ?_
      rotate_left
      · intro w'
        go_simp
        with_reducible rfl
      rotate_left
      · simp only [Act.put, List.setIfInBounds_toArray, List.set_cons_zero, List.set_cons_succ, i64_w, i32_w]
        rfl
      refine pure_ (i := 7) (N := some 32) (v := ?_) (a' := ?_) #[true, false, true, true, false, true, false, true, false, false, false, false, false, false, false, false, false, false, false, false, false, false, false, false] rfl rfl (by kernel_rfl) (fun _ _ _ h => h) (Or.inl ⟨by rfl, ?_⟩) ?_ ?_
      rotate_left
      · intro w'
        go_simp
        with_reducible rfl
      rotate_left
      · simp only [Act.put, List.setIfInBounds_toArray, List.set_cons_zero, List.set_cons_succ, i64_w, i32_w]
        rfl
      refine pure_ (i := 9) (N := some 34) (v := ?_) (a' := ?_) #[true, false, true, true, false, true, false, true, false, true, false, false, false, false, false, false, false, false, false, false, false, false, false, false] rfl rfl (by kernel_rfl) (fun _ _ _ h => h) (Or.inl ⟨by rfl, ?_⟩) ?_ ?_
      rotate_left
      · intro w'
        go_simp
        with_reducible rfl
      rotate_left
      · simp only [Act.put, List.setIfInBounds_toArray, List.set_cons_zero, List.set_cons_succ, i64_w, i32_w]
        rfl
      refine pure_ (i := 10) (N := some 35) (v := ?_) (a' := ?_) #[true, false, true, true, false, true, false, true, false, true, true, false, false, false, false, false, false, false, false, false, false, false, false, false] rfl rfl (by kernel_rfl) (fun _ _ _ h => h) (Or.inl ⟨by rfl, ?_⟩) ?_ ?_
      rotate_left
      · intro w'
        go_simp
        with_reducible rfl
      rotate_left
      · simp only [Act.put, List.setIfInBounds_toArray, List.set_cons_zero, List.set_cons_succ, i64_w, i32_w]
        rfl
      refine take_ (i := 1) (N := some 26) (v := ?_) (a' := ?_) #[true, true, true, true, false, true, false, true, false, true, true, false, false, false, false, false, false, false, false, false, false, false, false, false] rfl rfl (by kernel_rfl) (fun _ _ _ h => h) (Or.inl ⟨by rfl, ?_⟩) hHeld ?_ ?_
      rotate_left
      · rintro w' ⟨s0, s1⟩
        go_simp
        with_reducible rfl
      rotate_left
      · simp only [Act.put, List.setIfInBounds_toArray, List.set_cons_zero, List.set_cons_succ, i64_w, i32_w]
        rfl
      refine take_ (i := 6) (N := some 31) (v := ?_) (a' := ?_) #[true, true, true, true, false, true, true, true, false, true, true, false, false, false, false, false, false, false, false, false, false, false, false, false] rfl rfl (by kernel_rfl) (fun _ _ _ h => h) (Or.inl ⟨by rfl, ?_⟩) hHeld ?_ ?_
      rotate_left
      · rintro w' ⟨s0, s1⟩
        go_simp
        with_reducible rfl
      rotate_left
      · simp only [Act.put, List.setIfInBounds_toArray, List.set_cons_zero, List.set_cons_succ, i64_w, i32_w]
        rfl
      refine one_ (i := 4) (N := some 29) #[true, true, true, true, true, true, true, true, false, true, true, false, false, false, false, false, false, false, false, false, false, false, false, false] rfl rfl (by kernel_rfl) (by decide) (fun K hK => ?_)
      refine goes_ Try.func21 (by kernel_rfl) rfl #[.pointer (some ⟨p, 0, none⟩), .agg #[.int .i64 sz, .int .i64 hp], .string key, .int .i64 e] (by rfl) rfl rfl (by (try simp only [List.map_toArray, List.map_cons, List.map_nil]); first | done | rfl) ?_
      with_reducible refine (at_calls _ _ _ _ _ _ wd _ pb _ HP.out).mono ?_
      rintro e' w3 ⟨rfl, hb⟩
      refine ⟨_, rfl, ?_⟩
      rw [at_plain l sz hp wd e key, HV.out]
      have HP := Lib.hid (HP.out.below hb)
      have HL := Lib.hid (HL.out.below hb)
      have HB := Lib.hid (HB.out.trans ((show Below _ _ _ from hb).mono HB.out.size))
      have BK := Lib.hid (blk_below BK.out hb (blk_lt BK.out))
      clear hb
      refine hK.out _ _ ⟨(blk_cell BK.out 0), (blk_cell BK.out 1)⟩ (fun hHeld => ?_)
      clear hK K
      refine norm_ (a' := ?_) ?_ ?_
      rotate_left
      · show Act.put _ (some 29) _ = _
        simp only [Act.put, List.setIfInBounds_toArray, List.set_cons_zero, List.set_cons_succ, i64_w, i32_w]
        rfl
      refine one_ (i := 8) (N := some 33) #[true, true, true, true, true, true, true, true, true, true, true, false, false, false, false, false, false, false, false, false, false, false, false, false] rfl rfl (by kernel_rfl) (by decide) (fun K hK => ?_)
      refine goes_ Try.func23 (by kernel_rfl) rfl #[.pointer (some ⟨p, 0, none⟩)] (by rfl) rfl rfl (by (try simp only [List.map_toArray, List.map_cons, List.map_nil]); first | done | rfl) ?_
      with_reducible refine (width_calls _ _ wd _ pb _ HP.out).mono ?_
      rintro e' w4 ⟨rfl, rfl⟩
      refine ⟨_, rfl, ?_⟩
      refine hK.out _ _ ⟨(blk_cell BK.out 0), (blk_cell BK.out 1)⟩ (fun hHeld => ?_)
      clear hK K
      refine norm_ (a' := ?_) ?_ ?_
      rotate_left
      · show Act.put _ (some 33) _ = _
        simp only [Act.put, List.setIfInBounds_toArray, List.set_cons_zero, List.set_cons_succ, i64_w, i32_w]
        rfl
      refine one_ (i := 11) (N := some 36) #[true, true, true, true, true, true, true, true, true, true, true, true, false, false, false, false, false, false, false, false, false, false, false, false] rfl rfl (by kernel_rfl) (by decide) (fun K hK => ?_)
      refine goes_ Try.func22 (by kernel_rfl) rfl #[v, .agg #[.int .i64 sz, .int .i64 hp], .int .i64 wd, .string key, .int .i64 e] (by rfl) rfl rfl (by (try simp only [List.map_toArray, List.map_cons, List.map_nil]); first | done | rfl) ?_
      with_reducible refine (rat_calls _ l v sz hp wd e key HL.out hlen).mono ?_
      rintro e' w5 ⟨rfl, hb⟩
      refine ⟨_, rfl, ?_⟩
      rw [HV.out]
      have HP := Lib.hid (HP.out.below hb)
      have HL := Lib.hid (HL.out.below hb)
      have HB := Lib.hid (HB.out.trans ((show Below _ _ _ from hb).mono HB.out.size))
      have BK := Lib.hid (blk_below BK.out hb (blk_lt BK.out))
      clear hb
      refine hK.out _ _ ⟨(blk_cell BK.out 0), (blk_cell BK.out 1)⟩ (fun hHeld => ?_)
      clear hK K
      refine norm_ (a' := ?_) ?_ ?_
      rotate_left
      · show Act.put _ (some 36) _ = _
        simp only [Act.put, List.setIfInBounds_toArray, List.set_cons_zero, List.set_cons_succ, i64_w, i32_w]
        rfl
      refine pure_ (i := 12) (N := some 37) (v := ?_) (a' := ?_) #[true, true, true, true, true, true, true, true, true, true, true, true, true, false, false, false, false, false, false, false, false, false, false, false] rfl rfl (by kernel_rfl) (fun _ _ _ h => h) (Or.inl ⟨by rfl, ?_⟩) ?_ ?_
      rotate_left
      · intro w'
        go_simp
        with_reducible rfl
      rotate_left
      · simp only [Act.put, List.setIfInBounds_toArray, List.set_cons_zero, List.set_cons_succ, i64_w, i32_w]
        rfl
      refine pure_ (i := 13) (N := some 38) (v := ?_) (a' := ?_) #[true, true, true, true, true, true, true, true, true, true, true, true, true, true, false, false, false, false, false, false, false, false, false, false] rfl rfl (by kernel_rfl) (fun _ _ _ h => h) (Or.inl ⟨by rfl, ?_⟩) ?_ ?_
      rotate_left
      · intro w'
        go_simp
        with_reducible rfl
      rotate_left
      · simp only [Act.put, List.setIfInBounds_toArray, List.set_cons_zero, List.set_cons_succ, i64_w, i32_w]
        rfl
      refine pure_ (i := 15) (N := some 40) (v := ?_) (a' := ?_) #[true, true, true, true, true, true, true, true, true, true, true, true, true, true, false, true, false, false, false, false, false, false, false, false] rfl rfl (by kernel_rfl) (fun _ _ _ h => h) (Or.inl ⟨by rfl, ?_⟩) ?_ ?_
      rotate_left
      · intro w'
        go_simp
        with_reducible rfl
      rotate_left
      · simp only [Act.put, List.setIfInBounds_toArray, List.set_cons_zero, List.set_cons_succ, i64_w, i32_w]
        rfl
      refine pure_ (i := 16) (N := some 41) (v := ?_) (a' := ?_) #[true, true, true, true, true, true, true, true, true, true, true, true, true, true, false, true, true, false, false, false, false, false, false, false] rfl rfl (by kernel_rfl) (fun _ _ _ h => h) (Or.inl ⟨by rfl, ?_⟩) ?_ ?_
      rotate_left
      · intro w'
        go_simp
        with_reducible rfl
      rotate_left
      · simp only [Act.put, List.setIfInBounds_toArray, List.set_cons_zero, List.set_cons_succ, i64_w, i32_w]
        rfl
      refine take_ (i := 14) (N := some 39) (v := ?_) (a' := ?_) #[true, true, true, true, true, true, true, true, true, true, true, true, true, true, true, true, true, false, false, false, false, false, false, false] rfl rfl (by kernel_rfl) (fun _ _ _ h => h) (Or.inl ⟨by rfl, ?_⟩) hHeld ?_ ?_
      rotate_left
      · rintro w' ⟨s0, s1⟩
        go_simp
        with_reducible rfl
      rotate_left
      · simp only [Act.put, List.setIfInBounds_toArray, List.set_cons_zero, List.set_cons_succ, i64_w, i32_w]
        rfl
      refine one_ (i := 17) (N := some 42) #[true, true, true, true, true, true, true, true, true, true, true, true, true, true, true, true, true, true, false, false, false, false, false, false] rfl rfl (by kernel_rfl) (by decide) (fun K hK => ?_)
      refine goes_ Try.func21 (by kernel_rfl) rfl #[.pointer none, .agg #[.int .i64 sz, .int .i64 hp], .string key, .int .i64 e] (by rfl) rfl rfl (by (try simp only [List.map_toArray, List.map_cons, List.map_nil]); first | done | rfl) ?_
      with_reducible refine (at_nil _ _ _ _ _).mono ?_
      rintro e' w6 ⟨rfl, hb⟩
      refine ⟨_, rfl, ?_⟩
      have HP := Lib.hid (HP.out.below hb)
      have HL := Lib.hid (HL.out.below hb)
      have HB := Lib.hid (HB.out.trans ((show Below _ _ _ from hb).mono HB.out.size))
      have BK := Lib.hid (blk_below BK.out hb (blk_lt BK.out))
      clear hb
      refine hK.out _ _ ⟨(blk_cell BK.out 0), (blk_cell BK.out 1)⟩ (fun hHeld => ?_)
      clear hK K
      refine norm_ (a' := ?_) ?_ ?_
      rotate_left
      · show Act.put _ (some 42) _ = _
        simp only [Act.put, List.setIfInBounds_toArray, List.set_cons_zero, List.set_cons_succ, i64_w, i32_w]
        rfl
      refine pure_ (i := 18) (N := some 43) (v := ?_) (a' := ?_) #[true, true, true, true, true, true, true, true, true, true, true, true, true, true, true, true, true, true, true, false, false, false, false, false] rfl rfl (by kernel_rfl) (fun _ _ _ h => h) (Or.inl ⟨by rfl, ?_⟩) ?_ ?_
      rotate_left
      · intro w'
        go_simp
        with_reducible rfl
      rotate_left
      · simp only [Act.put, List.setIfInBounds_toArray, List.set_cons_zero, List.set_cons_succ, i64_w, i32_w]
        rfl
      refine pure_ (i := 19) (N := some 44) (v := ?_) (a' := ?_) #[true, true, true, true, true, true, true, true, true, true, true, true, true, true, true, true, true, true, true, true, false, false, false, false] rfl rfl (by kernel_rfl) (fun _ _ _ h => h) (Or.inl ⟨by rfl, ?_⟩) ?_ ?_
      rotate_left
      · intro w'
        go_simp
        with_reducible rfl
      rotate_left
      · simp only [Act.put, List.setIfInBounds_toArray, List.set_cons_zero, List.set_cons_succ, i64_w, i32_w]
        rfl
      refine pure_ (i := 20) (N := some 45) (v := ?_) (a' := ?_) #[true, true, true, true, true, true, true, true, true, true, true, true, true, true, true, true, true, true, true, true, true, false, false, false] rfl rfl (by kernel_rfl) (fun _ _ _ h => h) (Or.inl ⟨by rfl, ?_⟩) ?_ ?_
      rotate_left
      · intro w'
        go_simp
        with_reducible rfl
      rotate_left
      · simp only [Act.put, List.setIfInBounds_toArray, List.set_cons_zero, List.set_cons_succ, i64_w, i32_w]
        rfl
      refine one_ (i := 21) (N := some 46) #[true, true, true, true, true, true, true, true, true, true, true, true, true, true, true, true, true, true, true, true, true, true, false, false] rfl rfl (by kernel_rfl) (by decide) (fun K hK => ?_)
      refine goes_ Try.func12 (by kernel_rfl) rfl #[] (by rfl) rfl rfl (by (try simp only [List.map_toArray, List.map_cons, List.map_nil]); first | done | rfl) ?_
      with_reducible refine (awake_calls _).mono ?_
      rintro e' w7 ⟨rfl, hb⟩
      refine ⟨_, rfl, ?_⟩
      have HP := Lib.hid (HP.out.below hb)
      have HL := Lib.hid (HL.out.below hb)
      have HB := Lib.hid (HB.out.trans ((show Below _ _ _ from hb).mono HB.out.size))
      have BK := Lib.hid (blk_below BK.out hb (blk_lt BK.out))
      clear hb
      refine hK.out _ _ ⟨(blk_cell BK.out 0), (blk_cell BK.out 1)⟩ (fun hHeld => ?_)
      clear hK K
      refine norm_ (a' := ?_) ?_ ?_
      rotate_left
      · show Act.put _ (some 46) _ = _
        simp only [Act.put, List.setIfInBounds_toArray, List.set_cons_zero, List.set_cons_succ, i64_w, i32_w]
        rfl
      refine pure_ (i := 22) (N := some 47) (v := ?_) (a' := ?_) #[true, true, true, true, true, true, true, true, true, true, true, true, true, true, true, true, true, true, true, true, true, true, true, false] rfl rfl (by kernel_rfl) (fun _ _ _ h => h) (Or.inl ⟨by rfl, ?_⟩) ?_ ?_
      rotate_left
      · intro w'
        go_simp
        with_reducible rfl
      rotate_left
      · simp only [Act.put, List.setIfInBounds_toArray, List.set_cons_zero, List.set_cons_succ, i64_w, i32_w]
        rfl
      refine pure_ (i := 23) (N := some 10) (v := ?_) (a' := ?_) #[true, true, true, true, true, true, true, true, true, true, true, true, true, true, true, true, true, true, true, true, true, true, true, true] rfl rfl (by kernel_rfl) (fun _ _ _ h => h) (Or.inl ⟨by rfl, ?_⟩) ?_ ?_
      rotate_left
      · intro w'
        go_simp
        with_reducible rfl
      rotate_left
      · simp only [Act.put, List.setIfInBounds_toArray, List.set_cons_zero, List.set_cons_succ, i64_w, i32_w]
        rfl
      refine done_ (by kernel_rfl) ?_
      go_wp2
      go_ret
      exact ⟨rfl, HB.out⟩
  · have HLo := Lib.hid hlong
    clear hlong
    go_enter Try.func5, Try.ntmps5
    go_wp2_with fail
    refine (long_calls _ l _ HL.out).mono ?_
    rintro e' w1 ⟨rfl, hb⟩
    rw [HLo.out]
    have HB := Lib.hid (HB.out.trans ((show Below _ _ _ from hb).mono HB.out.size))
    have BK := Lib.hid (blk_below BK.out hb (blk_lt BK.out))
    clear hb
    go_wp2_with fail
    refine (awake_calls _).mono ?_
    rintro e' w2 ⟨rfl, hb⟩
    have HB := Lib.hid (HB.out.trans ((show Below _ _ _ from hb).mono HB.out.size))
    have BK := Lib.hid (blk_below BK.out hb (blk_lt BK.out))
    clear hb
    go_wp2
    go_ret
    exact ⟨rfl, HB.out⟩
end Go.Proofs.Ytgmbbjkkmgooiaa
