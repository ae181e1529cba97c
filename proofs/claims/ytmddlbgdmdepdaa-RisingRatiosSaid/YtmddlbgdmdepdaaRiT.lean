/- RisingOf, RisingTop, RisingRatios: the laws' functions return true, by walks. No condition. -/
import Derived.Test.YtmddlbgdmdepdaaRiS
import Derived.Test.YtmddlbgdmdepdaaArgsR
import Derived.OpenShut
set_option linter.unusedVariables false
set_option linter.unusedSimpArgs false
set_option maxRecDepth 100000
namespace Go.Proofs.Ytmddlbgdmdepdaa
open Go.Maps Go.MapKept Go.RowKit Go.ChangeMaps Go.Shelf CK Go.Proofs.YtmddlbgdmdepdaaW.PrintLast

theorem law_risingOf (n : Int) (l : List Add) (v : Value) (sp now fl : Int) (w : World) (h0 : (Lit.int .i64 n).wf = true) (hl : AddsAt w l v) (h1 : (Lit.int .i64 sp).wf = true) (h2 : (Lit.int .i64 now).wf = true) (h3 : (Lit.int .i64 fl).wf = true) :
    Calls Try.prog 6 #[.int .i64 n, v, .int .i64 sp, .int .i64 now, .int .i64 fl] w (BoolPost w true) := by
  clear h0 h1 h2 h3
  have HL := Lib.hid hl
  have HB : Hid (Below w.heap.size w w) := Below.refl _ _
  clear hl
  cases hlong : longC l
  case true =>
    have HLo := Lib.hid hlong
    clear hlong
    go_enter Try.func6, Try.ntmps6
    go_wp2_with fail
    refine (long19_calls _ l _ HL.out).mono ?_
    rintro e' w1 ⟨rfl, hb⟩
    rw [HLo.out]
    replace HL := Lib.hid (HL.out.below hb)
    replace HB := Lib.hid (HB.out.trans ((show Below _ _ _ from hb).mono HB.out.size))
    clear hb
    go_wp2_with fail
    refine (awake19_calls _).mono ?_
    rintro e' w2 ⟨rfl, hb⟩
    replace HB := Lib.hid (HB.out.trans ((show Below _ _ _ from hb).mono HB.out.size))
    clear hb
    go_wp2
    go_ret
    exact ⟨rfl, HB.out⟩
  have hlen := longC_false hlong
  have HLo := Lib.hid hlong
  clear hlong
  go_enter Try.func6, Try.ntmps6
  go_wp2_with fail
  refine (long19_calls _ l _ HL.out).mono ?_
  rintro e' w1 ⟨rfl, hb⟩
  rw [HLo.out]
  replace HL := Lib.hid (HL.out.below hb)
  replace HB := Lib.hid (HB.out.trans ((show Below _ _ _ from hb).mono HB.out.size))
  clear hb
  go_wp2_with fail
  refine (fill19_calls _ n l _ HL.out (by omega)).mono ?_
  rintro e' w2 ⟨p, pb, rfl, hp1, _, _, hb⟩
  replace HL := Lib.hid (HL.out.below hb)
  have HP := Lib.hid hp1
  clear hp1
  replace HB := Lib.hid (HB.out.trans ((show Below _ _ _ from hb).mono HB.out.size))
  clear hb
  obtain ⟨wd, hwd⟩ : ∃ wd, wd = min (max n 1) 1099511627776 := ⟨_, rfl⟩
  rw [← hwd] at HP
  clear hwd
  have hw1 := HP.out.w1
  have hw2 := HP.out.w2
  go_wp2_with fail
  refine (of_any _ l (by omega) p wd _ pb sp now fl HP.out).mono ?_
  rintro e' w3 ⟨v1, rfl, hr1, hb⟩
  replace HP := Lib.hid (HP.out.below hb)
  replace HL := Lib.hid (HL.out.below hb)
  have HR1 := Lib.hid hr1
  clear hr1
  replace HB := Lib.hid (HB.out.trans ((show Below _ _ _ from hb).mono HB.out.size))
  clear hb
  go_wp2_with fail
  refine (width_calls _ _ wd _ pb _ HP.out).mono ?_
  rintro e' w4 ⟨rfl, rfl⟩
  go_wp2_with fail
  refine (all_any _ l _ wd sp now fl HL.out (by omega) hw1).mono ?_
  rintro e' w4 ⟨v2, rfl, hr2, hb⟩
  replace HR1 := Lib.hid (HR1.out.below hb)
  have HR2 := Lib.hid hr2
  clear hr2
  replace HB := Lib.hid (HB.out.trans ((show Below _ _ _ from hb).mono HB.out.size))
  clear hb
  go_wp2_with fail
  refine (sameZ_calls _ _ _ _ _ HR1.out HR2.out rfl).mono ?_
  rintro e' w5 ⟨rfl, hb⟩
  replace HB := Lib.hid (HB.out.trans ((show Below _ _ _ from hb).mono HB.out.size))
  clear hb
  go_wp2_with fail
  refine (awake19_calls _).mono ?_
  rintro e' w6 ⟨rfl, hb⟩
  replace HB := Lib.hid (HB.out.trans ((show Below _ _ _ from hb).mono HB.out.size))
  clear hb
  go_wp2
  go_ret
  exact ⟨rfl, HB.out⟩
set_option maxHeartbeats 2000000 in
theorem law_risingTop (n : Int) (l : List Add) (v : Value) (sp now fl m : Int) (w : World) (h0 : (Lit.int .i64 n).wf = true) (hl : AddsAt w l v) (h1 : (Lit.int .i64 sp).wf = true) (h2 : (Lit.int .i64 now).wf = true) (h3 : (Lit.int .i64 fl).wf = true) (h4 : (Lit.int .i64 m).wf = true) :
    Calls Try.prog 11 #[.int .i64 n, v, .int .i64 sp, .int .i64 now, .int .i64 fl, .int .i64 m] w (BoolPost w true) := by
  clear h0 h1 h2 h3 h4
  have HL := Lib.hid hl
  have HB : Hid (Below w.heap.size w w) := Below.refl _ _
  clear hl
  cases hlong : longC l
  case true =>
    have HLo := Lib.hid hlong
    clear hlong
    go_enter Try.func11, Try.ntmps11
    go_wp2_with fail
    refine (long19_calls _ l _ HL.out).mono ?_
    rintro e' w1 ⟨rfl, hb⟩
    rw [HLo.out]
    replace HL := Lib.hid (HL.out.below hb)
    replace HB := Lib.hid (HB.out.trans ((show Below _ _ _ from hb).mono HB.out.size))
    clear hb
    go_wp2_with fail
    refine (awake19_calls _).mono ?_
    rintro e' w2 ⟨rfl, hb⟩
    replace HB := Lib.hid (HB.out.trans ((show Below _ _ _ from hb).mono HB.out.size))
    clear hb
    go_wp2
    go_ret
    exact ⟨rfl, HB.out⟩
  have hlen := longC_false hlong
  have HLo := Lib.hid hlong
  clear hlong
  go_enter Try.func11, Try.ntmps11
  go_wp2_with fail
  refine (long19_calls _ l _ HL.out).mono ?_
  rintro e' w1 ⟨rfl, hb⟩
  rw [HLo.out]
  replace HL := Lib.hid (HL.out.below hb)
  replace HB := Lib.hid (HB.out.trans ((show Below _ _ _ from hb).mono HB.out.size))
  clear hb
  go_wp2_with fail
  refine (fill19_calls _ n l _ HL.out (by omega)).mono ?_
  rintro e' w2 ⟨p, pb, rfl, hp1, _, _, hb⟩
  replace HL := Lib.hid (HL.out.below hb)
  have HP := Lib.hid hp1
  clear hp1
  replace HB := Lib.hid (HB.out.trans ((show Below _ _ _ from hb).mono HB.out.size))
  clear hb
  obtain ⟨wd, hwd⟩ : ∃ wd, wd = min (max n 1) 1099511627776 := ⟨_, rfl⟩
  rw [← hwd] at HP
  clear hwd
  have hw1 := HP.out.w1
  have hw2 := HP.out.w2
  obtain ⟨L, hL⟩ : ∃ L, L = risL l wd sp now fl := ⟨_, rfl⟩
  have HLL := Lib.hid hL
  clear hL
  go_wp2_with fail
  refine (of_any _ l (by omega) p wd _ pb sp now fl HP.out).mono ?_
  rintro e' w3 ⟨v1, rfl, hr1, hb⟩
  rw [← HLL.out] at hr1
  replace HP := Lib.hid (HP.out.below hb)
  replace HB := Lib.hid (HB.out.trans ((show Below _ _ _ from hb).mono HB.out.size))
  clear hb
  obtain ⟨so, cap, rfl, hmx⟩ := SliceR.shape hr1
  have hcap : L.length ≤ cap := by
    rcases hr1 with ⟨h0, _, _, h1, _⟩ | ⟨_, _, _, h0, _, h1, _⟩
    · rw [h0]; simp
    · cases h0; omega
  have hLl : L.length ≤ 9223372036854775807 := by unfold maxLen at *; omega
  have HR1 := Lib.hid hr1
  obtain ⟨c, hc⟩ : ∃ c : Nat, min (max m 0) (L.length : Int) = c := ⟨(min (max m 0) (L.length : Int)).toNat, by omega⟩
  have hcl : c ≤ L.length := by omega
  have hcc : c ≤ cap := Nat.le_trans hcl hcap
  have HR1c : Hid (CK.RowK encZ 3 w3 (L.take c) (.slice so c cap)) := CK.RowK.take hr1 c hcl rfl
  have HTc : Hid ((min (max m 0) (L.length : Int)).toNat = c) := by show _ = _; rw [hc]; simp
  clear hr1 hmx
  go_wp2_with fail
  replace HB := Lib.hid HB.out.drew
  replace HR1c : Hid (CK.RowK encZ 3 w3.drew (L.take c) (.slice so c cap)) := HR1c.out.below (Below.refl _ _).drew
  replace HP : Hid (PanesAt w3.drew p wd (cntOf l) pb (sumsOf wd l)) := HP.out.below (Below.refl _ _).drew
  refine start_ (n := 35) (S := fun w' => True) (ds := []) #[false, false, false, false, false, false, false, false, false, false, false, false, false, false, false, false, false, false, false, false, false, false, false, false, false, false, false, false, false, false, false, false, false, false, false] (by kernel_rfl) rfl rfl trivial (fun hHeld => ?_)
  refine pure_ (i := 0) (N := some 28) (v := ?_) (a' := ?_) #[true, false, false, false, false, false, false, false, false, false, false, false, false, false, false, false, false, false, false, false, false, false, false, false, false, false, false, false, false, false, false, false, false, false, false] rfl rfl (by kernel_rfl) (fun _ _ _ h => h) (Or.inl ⟨by rfl, ?_⟩) ?_ ?_
  rotate_left
  · intro w'
    go_simp
    with_reducible rfl
  rotate_left
  · simp only [Act.put, List.setIfInBounds_toArray, List.set_cons_zero, List.set_cons_succ, i64_w, i32_w]
    rfl
  refine pure_ (i := 1) (N := some 29) (v := ?_) (a' := ?_) #[true, true, false, false, false, false, false, false, false, false, false, false, false, false, false, false, false, false, false, false, false, false, false, false, false, false, false, false, false, false, false, false, false, false, false] rfl rfl (by kernel_rfl) (fun _ _ _ h => h) (Or.inl ⟨by rfl, ?_⟩) ?_ ?_
  rotate_left
  · intro w'
    go_simp
    with_reducible rfl
  rotate_left
  · simp only [Act.put, List.setIfInBounds_toArray, List.set_cons_zero, List.set_cons_succ, i64_w, i32_w]
    rfl
  refine pure_ (i := 2) (N := some 30) (v := ?_) (a' := ?_) #[true, true, true, false, false, false, false, false, false, false, false, false, false, false, false, false, false, false, false, false, false, false, false, false, false, false, false, false, false, false, false, false, false, false, false] rfl rfl (by kernel_rfl) (fun _ _ _ h => h) (Or.inl ⟨by rfl, ?_⟩) ?_ ?_
  rotate_left
  · intro w'
    go_simp
    with_reducible rfl
  rotate_left
  · simp only [Act.put, List.setIfInBounds_toArray, List.set_cons_zero, List.set_cons_succ, i64_w, i32_w]
    rfl
  refine pure_ (i := 3) (N := some 31) (v := ?_) (a' := ?_) #[true, true, true, true, false, false, false, false, false, false, false, false, false, false, false, false, false, false, false, false, false, false, false, false, false, false, false, false, false, false, false, false, false, false, false] rfl rfl (by kernel_rfl) (fun _ _ _ h => h) (Or.inl ⟨by rfl, ?_⟩) ?_ ?_
  rotate_left
  · intro w'
    go_simp
    with_reducible rfl
  rotate_left
  · simp only [Act.put, List.setIfInBounds_toArray, List.set_cons_zero, List.set_cons_succ, i64_w, i32_w]
    rfl
  refine pure_ (i := 4) (N := some 32) (v := ?_) (a' := ?_) #[true, true, true, true, true, false, false, false, false, false, false, false, false, false, false, false, false, false, false, false, false, false, false, false, false, false, false, false, false, false, false, false, false, false, false] rfl rfl (by kernel_rfl) (fun _ _ _ h => h) (Or.inl ⟨by rfl, ?_⟩) ?_ ?_
  rotate_left
  · intro w'
    go_simp
    with_reducible rfl
  rotate_left
  · simp only [Act.put, List.setIfInBounds_toArray, List.set_cons_zero, List.set_cons_succ, i64_w, i32_w]
    rfl
  refine pure_ (i := 6) (N := some 34) (v := ?_) (a' := ?_) #[true, true, true, true, true, false, true, false, false, false, false, false, false, false, false, false, false, false, false, false, false, false, false, false, false, false, false, false, false, false, false, false, false, false, false] rfl rfl (by kernel_rfl) (fun _ _ _ h => h) (Or.inl ⟨by rfl, ?_⟩) ?_ ?_
  rotate_left
  · intro w'
    go_simp
    with_reducible rfl
  rotate_left
  · simp only [Act.put, List.setIfInBounds_toArray, List.set_cons_zero, List.set_cons_succ, i64_w, i32_w]
    rfl
  refine pure_ (i := 7) (N := some 35) (v := ?_) (a' := ?_) #[true, true, true, true, true, false, true, true, false, false, false, false, false, false, false, false, false, false, false, false, false, false, false, false, false, false, false, false, false, false, false, false, false, false, false] rfl rfl (by kernel_rfl) (fun _ _ _ h => h) (Or.inl ⟨by rfl, ?_⟩) ?_ ?_
  rotate_left
  · intro w'
    go_simp
    with_reducible rfl
  rotate_left
  · simp only [Act.put, List.setIfInBounds_toArray, List.set_cons_zero, List.set_cons_succ, i64_w, i32_w]
    rfl
  refine pure_ (i := 8) (N := some 36) (v := ?_) (a' := ?_) #[true, true, true, true, true, false, true, true, true, false, false, false, false, false, false, false, false, false, false, false, false, false, false, false, false, false, false, false, false, false, false, false, false, false, false] rfl rfl (by kernel_rfl) (fun _ _ _ h => h) (Or.inl ⟨by rfl, ?_⟩) ?_ ?_
  rotate_left
  · intro w'
    go_simp
    with_reducible rfl
  rotate_left
  · simp only [Act.put, List.setIfInBounds_toArray, List.set_cons_zero, List.set_cons_succ, i64_w, i32_w]
    rfl
  refine pure_ (i := 9) (N := some 37) (v := ?_) (a' := ?_) #[true, true, true, true, true, false, true, true, true, true, false, false, false, false, false, false, false, false, false, false, false, false, false, false, false, false, false, false, false, false, false, false, false, false, false] rfl rfl (by kernel_rfl) (fun _ _ _ h => h) (Or.inl ⟨by rfl, ?_⟩) ?_ ?_
  rotate_left
  · intro w'
    go_simp
    with_reducible rfl
  rotate_left
  · simp only [Act.put, List.setIfInBounds_toArray, List.set_cons_zero, List.set_cons_succ, i64_w, i32_w]
    rfl
  refine pure_ (i := 10) (N := some 38) (v := ?_) (a' := ?_) #[true, true, true, true, true, false, true, true, true, true, true, false, false, false, false, false, false, false, false, false, false, false, false, false, false, false, false, false, false, false, false, false, false, false, false] rfl rfl (by kernel_rfl) (fun _ _ _ h => h) (Or.inl ⟨by rfl, ?_⟩) ?_ ?_
  rotate_left
  · intro w'
    go_simp
    with_reducible rfl
  rotate_left
  · simp only [Act.put, List.setIfInBounds_toArray, List.set_cons_zero, List.set_cons_succ, i64_w, i32_w]
    rfl
  refine pure_ (i := 11) (N := some 39) (v := ?_) (a' := ?_) #[true, true, true, true, true, false, true, true, true, true, true, true, false, false, false, false, false, false, false, false, false, false, false, false, false, false, false, false, false, false, false, false, false, false, false] rfl rfl (by kernel_rfl) (fun _ _ _ h => h) (Or.inl ⟨by rfl, ?_⟩) ?_ ?_
  rotate_left
  · intro w'
    go_simp
    with_reducible rfl
  rotate_left
  · simp only [Act.put, List.setIfInBounds_toArray, List.set_cons_zero, List.set_cons_succ, i64_w, i32_w]
    rfl
  refine pure_ (i := 12) (N := some 40) (v := ?_) (a' := ?_) #[true, true, true, true, true, false, true, true, true, true, true, true, true, false, false, false, false, false, false, false, false, false, false, false, false, false, false, false, false, false, false, false, false, false, false] rfl rfl (by kernel_rfl) (fun _ _ _ h => h) (Or.inl ⟨by rfl, ?_⟩) ?_ ?_
  rotate_left
  · intro w'
    go_simp
    with_reducible rfl
  rotate_left
  · simp only [Act.put, List.setIfInBounds_toArray, List.set_cons_zero, List.set_cons_succ, i64_w, i32_w]
    rfl
  refine one_ (i := 5) (N := some 33) #[true, true, true, true, true, true, true, true, true, true, true, true, true, false, false, false, false, false, false, false, false, false, false, false, false, false, false, false, false, false, false, false, false, false, false] rfl rfl (by kernel_rfl) (by decide) (fun K hK => ?_)
  refine goes_ Try.func37 (by kernel_rfl) rfl #[.pointer (some ⟨p, 0, none⟩), .int .i64 sp, .int .i64 now, .int .i64 fl, .int .i64 m] (by rfl) rfl rfl (by (try simp only [List.map_toArray, List.map_cons, List.map_nil]); first | done | rfl) ?_
  with_reducible refine (top19_calls _ _ sp now fl m _ (of_any _ l (by omega) p wd _ pb sp now fl HP.out)).mono ?_
  rintro e' w4 ⟨v2, rfl, hr2, hb⟩
  refine ⟨_, rfl, ?_⟩
  rw [← HLL.out, HTc.out] at hr2
  have HR2 := Lib.hid hr2
  replace HR1c := Lib.hid (HR1c.out.below hb)
  replace HB := Lib.hid (HB.out.trans ((show Below _ _ _ from hb).mono HB.out.size))
  clear hr2 hb
  refine hK.out _ _ trivial (fun hHeld => ?_)
  clear hK K
  refine norm_ (a' := ?_) ?_ ?_
  rotate_left
  · show Act.put _ (some 33) _ = _
    simp only [Act.put, List.setIfInBounds_toArray, List.set_cons_zero, List.set_cons_succ, i64_w, i32_w]
    rfl
  refine one_ (i := 13) (N := some 41) #[true, true, true, true, true, true, true, true, true, true, true, true, true, true, false, false, false, false, false, false, false, false, false, false, false, false, false, false, false, false, false, false, false, false, false] rfl rfl (by kernel_rfl) (by decide) (fun K hK => ?_)
  refine goes_ Try.func35 (by kernel_rfl) rfl #[v2, .slice so c cap] (by rfl) rfl rfl (by (try simp only [List.map_toArray, List.map_cons, List.map_nil]); first | done | rfl) ?_
  with_reducible refine (sameZ_calls _ _ _ _ _ HR2.out HR1c.out rfl).mono ?_
  rintro e' w5 ⟨rfl, hb⟩
  refine ⟨_, rfl, ?_⟩
  replace HB := Lib.hid (HB.out.trans ((show Below _ _ _ from hb).mono HB.out.size))
  clear hb
  refine hK.out _ _ trivial (fun hHeld => ?_)
  clear hK K
  refine norm_ (a' := ?_) ?_ ?_
  rotate_left
  · show Act.put _ (some 41) _ = _
    simp only [Act.put, List.setIfInBounds_toArray, List.set_cons_zero, List.set_cons_succ, i64_w, i32_w]
    rfl
  refine pure_ (i := 14) (N := some 42) (v := ?_) (a' := ?_) #[true, true, true, true, true, true, true, true, true, true, true, true, true, true, true, false, false, false, false, false, false, false, false, false, false, false, false, false, false, false, false, false, false, false, false] rfl rfl (by kernel_rfl) (fun _ _ _ h => h) (Or.inl ⟨by rfl, ?_⟩) ?_ ?_
  rotate_left
  · intro w'
    go_simp
    with_reducible rfl
  rotate_left
  · simp only [Act.put, List.setIfInBounds_toArray, List.set_cons_zero, List.set_cons_succ, i64_w, i32_w]
    rfl
  refine pure_ (i := 15) (N := some 43) (v := ?_) (a' := ?_) #[true, true, true, true, true, true, true, true, true, true, true, true, true, true, true, true, false, false, false, false, false, false, false, false, false, false, false, false, false, false, false, false, false, false, false] rfl rfl (by kernel_rfl) (fun _ _ _ h => h) (Or.inl ⟨by rfl, ?_⟩) ?_ ?_
  rotate_left
  · intro w'
    go_simp
    with_reducible rfl
  rotate_left
  · simp only [Act.put, List.setIfInBounds_toArray, List.set_cons_zero, List.set_cons_succ, i64_w, i32_w]
    rfl
  refine pure_ (i := 16) (N := some 44) (v := ?_) (a' := ?_) #[true, true, true, true, true, true, true, true, true, true, true, true, true, true, true, true, true, false, false, false, false, false, false, false, false, false, false, false, false, false, false, false, false, false, false] rfl rfl (by kernel_rfl) (fun _ _ _ h => h) (Or.inl ⟨by rfl, ?_⟩) ?_ ?_
  rotate_left
  · intro w'
    go_simp
    with_reducible rfl
  rotate_left
  · simp only [Act.put, List.setIfInBounds_toArray, List.set_cons_zero, List.set_cons_succ, i64_w, i32_w]
    rfl
  refine pure_ (i := 17) (N := some 45) (v := ?_) (a' := ?_) #[true, true, true, true, true, true, true, true, true, true, true, true, true, true, true, true, true, true, false, false, false, false, false, false, false, false, false, false, false, false, false, false, false, false, false] rfl rfl (by kernel_rfl) (fun _ _ _ h => h) (Or.inl ⟨by rfl, ?_⟩) ?_ ?_
  rotate_left
  · intro w'
    go_simp
    with_reducible rfl
  rotate_left
  · simp only [Act.put, List.setIfInBounds_toArray, List.set_cons_zero, List.set_cons_succ, i64_w, i32_w]
    rfl
  refine one_ (i := 18) (N := some 46) #[true, true, true, true, true, true, true, true, true, true, true, true, true, true, true, true, true, true, true, false, false, false, false, false, false, false, false, false, false, false, false, false, false, false, false] rfl rfl (by kernel_rfl) (by decide) (fun K hK => ?_)
  refine goes_ Try.func18 (by kernel_rfl) rfl #[.pointer none, .int .i64 sp, .int .i64 now, .int .i64 fl] (by rfl) rfl rfl (by (try simp only [List.map_toArray, List.map_cons, List.map_nil]); first | done | rfl) ?_
  with_reducible refine (of_nil _ _ _ _).mono ?_
  rintro e' w6 ⟨v3, rfl, hr3, hb⟩
  refine ⟨_, rfl, ?_⟩
  replace HB := Lib.hid (HB.out.trans ((show Below _ _ _ from hb).mono HB.out.size))
  obtain ⟨o3, c3, rfl, _⟩ := SliceR.shape hr3
  clear hr3 hb
  refine hK.out _ _ trivial (fun hHeld => ?_)
  clear hK K
  refine norm_ (a' := ?_) ?_ ?_
  rotate_left
  · show Act.put _ (some 46) _ = _
    simp only [Act.put, List.setIfInBounds_toArray, List.set_cons_zero, List.set_cons_succ, i64_w, i32_w]
    rfl
  refine pure_ (i := 19) (N := some 47) (v := ?_) (a' := ?_) #[true, true, true, true, true, true, true, true, true, true, true, true, true, true, true, true, true, true, true, true, false, false, false, false, false, false, false, false, false, false, false, false, false, false, false] rfl rfl (by kernel_rfl) (fun _ _ _ h => h) (Or.inl ⟨by rfl, ?_⟩) ?_ ?_
  rotate_left
  · intro w'
    go_simp
    with_reducible rfl
  rotate_left
  · simp only [Act.put, List.setIfInBounds_toArray, List.set_cons_zero, List.set_cons_succ, i64_w, i32_w]
    rfl
  refine pure_ (i := 20) (N := some 48) (v := ?_) (a' := ?_) #[true, true, true, true, true, true, true, true, true, true, true, true, true, true, true, true, true, true, true, true, true, false, false, false, false, false, false, false, false, false, false, false, false, false, false] rfl rfl (by kernel_rfl) (fun _ _ _ h => h) (Or.inl ⟨by rfl, ?_⟩) ?_ ?_
  rotate_left
  · intro w'
    go_simp
    with_reducible rfl
  rotate_left
  · simp only [Act.put, List.setIfInBounds_toArray, List.set_cons_zero, List.set_cons_succ, i64_w, i32_w]
    rfl
  refine pure_ (i := 21) (N := some 49) (v := ?_) (a' := ?_) #[true, true, true, true, true, true, true, true, true, true, true, true, true, true, true, true, true, true, true, true, true, true, false, false, false, false, false, false, false, false, false, false, false, false, false] rfl rfl (by kernel_rfl) (fun _ _ _ h => h) (Or.inl ⟨by rfl, ?_⟩) ?_ ?_
  rotate_left
  · intro w'
    go_simp
    with_reducible rfl
  rotate_left
  · simp only [Act.put, List.setIfInBounds_toArray, List.set_cons_zero, List.set_cons_succ, i64_w, i32_w]
    rfl
  refine pure_ (i := 22) (N := some 50) (v := ?_) (a' := ?_) #[true, true, true, true, true, true, true, true, true, true, true, true, true, true, true, true, true, true, true, true, true, true, true, false, false, false, false, false, false, false, false, false, false, false, false] rfl rfl (by kernel_rfl) (fun _ _ _ h => h) (Or.inl ⟨by rfl, ?_⟩) ?_ ?_
  rotate_left
  · intro w'
    go_simp
    with_reducible rfl
  rotate_left
  · simp only [Act.put, List.setIfInBounds_toArray, List.set_cons_zero, List.set_cons_succ, i64_w, i32_w]
    rfl
  refine pure_ (i := 23) (N := some 51) (v := ?_) (a' := ?_) #[true, true, true, true, true, true, true, true, true, true, true, true, true, true, true, true, true, true, true, true, true, true, true, true, false, false, false, false, false, false, false, false, false, false, false] rfl rfl (by kernel_rfl) (fun _ _ _ h => h) (Or.inl ⟨by rfl, ?_⟩) ?_ ?_
  rotate_left
  · intro w'
    go_simp
    with_reducible rfl
  rotate_left
  · simp only [Act.put, List.setIfInBounds_toArray, List.set_cons_zero, List.set_cons_succ, i64_w, i32_w]
    rfl
  refine pure_ (i := 24) (N := some 52) (v := ?_) (a' := ?_) #[true, true, true, true, true, true, true, true, true, true, true, true, true, true, true, true, true, true, true, true, true, true, true, true, true, false, false, false, false, false, false, false, false, false, false] rfl rfl (by kernel_rfl) (fun _ _ _ h => h) (Or.inl ⟨by rfl, ?_⟩) ?_ ?_
  rotate_left
  · intro w'
    go_simp
    with_reducible rfl
  rotate_left
  · simp only [Act.put, List.setIfInBounds_toArray, List.set_cons_zero, List.set_cons_succ, i64_w, i32_w]
    rfl
  refine pure_ (i := 25) (N := some 53) (v := ?_) (a' := ?_) #[true, true, true, true, true, true, true, true, true, true, true, true, true, true, true, true, true, true, true, true, true, true, true, true, true, true, false, false, false, false, false, false, false, false, false] rfl rfl (by kernel_rfl) (fun _ _ _ h => h) (Or.inl ⟨by rfl, ?_⟩) ?_ ?_
  rotate_left
  · intro w'
    go_simp
    with_reducible rfl
  rotate_left
  · simp only [Act.put, List.setIfInBounds_toArray, List.set_cons_zero, List.set_cons_succ, i64_w, i32_w]
    rfl
  refine pure_ (i := 26) (N := some 54) (v := ?_) (a' := ?_) #[true, true, true, true, true, true, true, true, true, true, true, true, true, true, true, true, true, true, true, true, true, true, true, true, true, true, true, false, false, false, false, false, false, false, false] rfl rfl (by kernel_rfl) (fun _ _ _ h => h) (Or.inl ⟨by rfl, ?_⟩) ?_ ?_
  rotate_left
  · intro w'
    go_simp
    with_reducible rfl
  rotate_left
  · simp only [Act.put, List.setIfInBounds_toArray, List.set_cons_zero, List.set_cons_succ, i64_w, i32_w]
    rfl
  refine one_ (i := 27) (N := some 55) #[true, true, true, true, true, true, true, true, true, true, true, true, true, true, true, true, true, true, true, true, true, true, true, true, true, true, true, true, false, false, false, false, false, false, false] rfl rfl (by kernel_rfl) (by decide) (fun K hK => ?_)
  refine goes_ Try.func37 (by kernel_rfl) rfl #[.pointer none, .int .i64 sp, .int .i64 now, .int .i64 fl, .int .i64 m] (by rfl) rfl rfl (by (try simp only [List.map_toArray, List.map_cons, List.map_nil]); first | done | rfl) ?_
  with_reducible refine (top19_calls _ _ sp now fl m _ (of_nil _ _ _ _)).mono ?_
  rintro e' w7 ⟨v4, rfl, hr4, hb⟩
  refine ⟨_, rfl, ?_⟩
  replace HB := Lib.hid (HB.out.trans ((show Below _ _ _ from hb).mono HB.out.size))
  obtain ⟨o4, c4, rfl, _⟩ := SliceR.shape hr4
  simp only [List.take_nil, List.length_nil]
  clear hr4 hb
  refine hK.out _ _ trivial (fun hHeld => ?_)
  clear hK K
  refine norm_ (a' := ?_) ?_ ?_
  rotate_left
  · show Act.put _ (some 55) _ = _
    simp only [Act.put, List.setIfInBounds_toArray, List.set_cons_zero, List.set_cons_succ, i64_w, i32_w]
    rfl
  refine pure_ (i := 28) (N := some 56) (v := ?_) (a' := ?_) #[true, true, true, true, true, true, true, true, true, true, true, true, true, true, true, true, true, true, true, true, true, true, true, true, true, true, true, true, true, false, false, false, false, false, false] rfl rfl (by kernel_rfl) (fun _ _ _ h => h) (Or.inl ⟨by rfl, ?_⟩) ?_ ?_
  rotate_left
  · intro w'
    go_simp
    with_reducible rfl
  rotate_left
  · simp only [Act.put, List.setIfInBounds_toArray, List.set_cons_zero, List.set_cons_succ, i64_w, i32_w]
    rfl
  refine pure_ (i := 29) (N := some 57) (v := ?_) (a' := ?_) #[true, true, true, true, true, true, true, true, true, true, true, true, true, true, true, true, true, true, true, true, true, true, true, true, true, true, true, true, true, true, false, false, false, false, false] rfl rfl (by kernel_rfl) (fun _ _ _ h => h) (Or.inl ⟨by rfl, ?_⟩) ?_ ?_
  rotate_left
  · intro w'
    go_simp
    with_reducible rfl
  rotate_left
  · simp only [Act.put, List.setIfInBounds_toArray, List.set_cons_zero, List.set_cons_succ, i64_w, i32_w]
    rfl
  refine pure_ (i := 30) (N := some 58) (v := ?_) (a' := ?_) #[true, true, true, true, true, true, true, true, true, true, true, true, true, true, true, true, true, true, true, true, true, true, true, true, true, true, true, true, true, true, true, false, false, false, false] rfl rfl (by kernel_rfl) (fun _ _ _ h => h) (Or.inl ⟨by rfl, ?_⟩) ?_ ?_
  rotate_left
  · intro w'
    go_simp
    with_reducible rfl
  rotate_left
  · simp only [Act.put, List.setIfInBounds_toArray, List.set_cons_zero, List.set_cons_succ, i64_w, i32_w]
    rfl
  refine pure_ (i := 31) (N := some 59) (v := ?_) (a' := ?_) #[true, true, true, true, true, true, true, true, true, true, true, true, true, true, true, true, true, true, true, true, true, true, true, true, true, true, true, true, true, true, true, true, false, false, false] rfl rfl (by kernel_rfl) (fun _ _ _ h => h) (Or.inl ⟨by rfl, ?_⟩) ?_ ?_
  rotate_left
  · intro w'
    go_simp
    with_reducible rfl
  rotate_left
  · simp only [Act.put, List.setIfInBounds_toArray, List.set_cons_zero, List.set_cons_succ, i64_w, i32_w]
    rfl
  refine one_ (i := 32) (N := some 60) #[true, true, true, true, true, true, true, true, true, true, true, true, true, true, true, true, true, true, true, true, true, true, true, true, true, true, true, true, true, true, true, true, true, false, false] rfl rfl (by kernel_rfl) (by decide) (fun K hK => ?_)
  refine goes_ Try.func33 (by kernel_rfl) rfl #[] (by rfl) rfl rfl (by (try simp only [List.map_toArray, List.map_cons, List.map_nil]); first | done | rfl) ?_
  with_reducible refine (awake19_calls _).mono ?_
  rintro e' w8 ⟨rfl, hb⟩
  refine ⟨_, rfl, ?_⟩
  replace HB := Lib.hid (HB.out.trans ((show Below _ _ _ from hb).mono HB.out.size))
  clear hb
  refine hK.out _ _ trivial (fun hHeld => ?_)
  clear hK K
  refine norm_ (a' := ?_) ?_ ?_
  rotate_left
  · show Act.put _ (some 60) _ = _
    simp only [Act.put, List.setIfInBounds_toArray, List.set_cons_zero, List.set_cons_succ, i64_w, i32_w]
    rfl
  refine pure_ (i := 33) (N := some 61) (v := ?_) (a' := ?_) #[true, true, true, true, true, true, true, true, true, true, true, true, true, true, true, true, true, true, true, true, true, true, true, true, true, true, true, true, true, true, true, true, true, true, false] rfl rfl (by kernel_rfl) (fun _ _ _ h => h) (Or.inl ⟨by rfl, ?_⟩) ?_ ?_
  rotate_left
  · intro w'
    go_simp
    with_reducible rfl
  rotate_left
  · simp only [Act.put, List.setIfInBounds_toArray, List.set_cons_zero, List.set_cons_succ, i64_w, i32_w]
    rfl
  refine pure_ (i := 34) (N := some 12) (v := ?_) (a' := ?_) #[true, true, true, true, true, true, true, true, true, true, true, true, true, true, true, true, true, true, true, true, true, true, true, true, true, true, true, true, true, true, true, true, true, true, true] rfl rfl (by kernel_rfl) (fun _ _ _ h => h) (Or.inl ⟨by rfl, ?_⟩) ?_ ?_
  rotate_left
  · intro w'
    go_simp
    with_reducible rfl
  rotate_left
  · simp only [Act.put, List.setIfInBounds_toArray, List.set_cons_zero, List.set_cons_succ, i64_w, i32_w]
    rfl
  refine done_ (by kernel_rfl) ?_
  go_wp2
  go_ret
  exact ⟨rfl, HB.out⟩
/-- any rise's fraction -/
def ratN (n o : Int) : Int := if 0 ≤ n ∧ 0 ≤ o ∧ o ≠ 9223372036854775807 then n else 0
def ratD (n o : Int) : Int := if 0 ≤ n ∧ 0 ≤ o ∧ o ≠ 9223372036854775807 then o + 1 else 1
theorem ratio_all (k : ByteArray) (n o : Int) (w : World) (h3 : o ≤ 9223372036854775807) :
    Calls Try.prog 21 #[.agg #[.string k, .int .i64 n, .int .i64 o]] w fun e w' => e = .returned (.agg #[.int .i64 (ratN n o), .int .i64 (ratD n o)]) ∧ Below w.heap.size w w' := by
  by_cases h0 : 0 ≤ n
  · have d1 : decide (n < 0) = false := by simpa using h0
    by_cases h2 : 0 ≤ o
    · have d2 : decide (o < 0) = false := by simpa using h2
      by_cases h4 : o = 9223372036854775807
      · have d3 : (o == 9223372036854775807) = true := by rw [beq_iff_eq]; exact h4
        have e1 : ratN n o = 0 := by unfold ratN; rw [if_neg (fun h => h.2.2 h4)]
        have e2 : ratD n o = 1 := by unfold ratD; rw [if_neg (fun h => h.2.2 h4)]
        rw [e1, e2]
        clear h4 e1 e2
        go_enter Try.func21, Try.ntmps21
        go_wp2
        refine bodyPost_ret (results_cell_row rfl _ _ (w.heap.size + 1) 39 _ (0, 0) _ rfl (blk_new2 w _ _) Try.underlying39 rfl (by kernel_rfl)) rfl ⟨rfl, ((Below.refl _ w).alloc (Nat.le_refl _) _).alloc (by simp) _⟩
      · have d3 : (o == 9223372036854775807) = false := by rw [beq_eq_false_iff_ne]; exact h4
        have e1 : ratN n o = n := by unfold ratN; rw [if_pos ⟨h0, h2, h4⟩]
        have e2 : ratD n o = o + 1 := by unfold ratD; rw [if_pos ⟨h0, h2, h4⟩]
        rw [e1, e2]
        have h5 : o ≤ 9223372036854775806 := by omega
        clear h4 e1 e2
        go_enter Try.func21, Try.ntmps21
        go_wp2
        refine bodyPost_ret (results_cell_row rfl _ _ (w.heap.size + 1) 39 _ (0, 0) _ rfl (blk_new2 w _ _) Try.underlying39 rfl (by kernel_rfl)) rfl ⟨rfl, ((Below.refl _ w).alloc (Nat.le_refl _) _).alloc (by simp) _⟩
    · have d2 : decide (o < 0) = true := by simpa using h2
      have e1 : ratN n o = 0 := by unfold ratN; rw [if_neg (fun h => h2 h.2.1)]
      have e2 : ratD n o = 1 := by unfold ratD; rw [if_neg (fun h => h2 h.2.1)]
      rw [e1, e2]
      clear e1 e2
      go_enter Try.func21, Try.ntmps21
      go_wp2
      refine bodyPost_ret (results_cell_row rfl _ _ (w.heap.size + 1) 39 _ (0, 0) _ rfl (blk_new2 w _ _) Try.underlying39 rfl (by kernel_rfl)) rfl ⟨rfl, ((Below.refl _ w).alloc (Nat.le_refl _) _).alloc (by simp) _⟩
  · have d1 : decide (n < 0) = true := by simpa using h0
    have e1 : ratN n o = 0 := by unfold ratN; rw [if_neg (fun h => h0 h.1)]
    have e2 : ratD n o = 1 := by unfold ratD; rw [if_neg (fun h => h0 h.1)]
    rw [e1, e2]
    clear e1 e2
    go_enter Try.func21, Try.ntmps21
    go_wp2
    refine bodyPost_ret (results_cell_row rfl _ _ (w.heap.size + 1) 39 _ (0, 0) _ rfl (blk_new2 w _ _) Try.underlying39 rfl (by kernel_rfl)) rfl ⟨rfl, ((Below.refl _ w).alloc (Nat.le_refl _) _).alloc (by simp) _⟩
set_option maxHeartbeats 1000000 in
theorem law_ratios (r : RiseB) (w : World) (hr : r.ok) : Calls Try.prog 7 #[.agg r.cs.toArray] w (BoolPost w true) := by
  obtain ⟨k, x, o⟩ := r
  show Calls Try.prog _ #[.agg #[.string k, .int .i64 x, .int .i64 o]] _ _
  have ho : o ≤ 9223372036854775807 := (bounds_i64 (show (Lit.int .i64 o).wf = true from hr.2.2)).2
  clear hr
  by_cases h0 : 0 ≤ x
  · have d1 : decide (0 ≤ x) = true := by simpa using h0
    by_cases h2 : 0 ≤ o
    · have d2 : decide (0 ≤ o) = true := by simpa using h2
      by_cases h4 : o < 9223372036854775807
      · have d3 : decide (o < 9223372036854775807) = true := by simpa using h4
        have e1 : ratN x o = x := by unfold ratN; rw [if_pos ⟨h0, h2, by omega⟩]
        have e2 : ratD x o = o + 1 := by unfold ratD; rw [if_pos ⟨h0, h2, by omega⟩]
        replace e1 := Lib.hid e1
        replace e2 := Lib.hid e2
        go_enter Try.func7, Try.ntmps7
        go_wp2_with fail
        refine name_w (fun w' => (w'.drew.heap[w.heap.size]? = some (.cells #[.string k, .int .i64 x, .int .i64 o] 35 (0, 0)) ∧ w'.drew.heap[w.heap.size + 1]? = some (.cells #[.int .i64 (ratN x o), .int .i64 (ratD x o)] 39 (0, 0))) ∧ Below w.heap.size w w'.drew) ⟨⟨blk_old (blk_new w _) _, by rw [e1.out, e2.out]; exact blk_new2 w _ _⟩, (((Below.refl _ w).alloc (Nat.le_refl _) _).alloc (by simp) _).drew⟩ ?_
        clear e1 e2
        rintro w0 ⟨⟨hB1, hB2⟩, HB⟩
        replace hB1 := Lib.hid hB1
        replace hB2 := Lib.hid hB2
        replace HB := Lib.hid HB
        obtain ⟨A, hA⟩ : ∃ A, A = ratN x o := ⟨_, rfl⟩
        obtain ⟨D, hD⟩ : ∃ D, D = ratD x o := ⟨_, rfl⟩
        rw [← hA, ← hD] at hB2
        have HRC : Hid (∀ w, Calls Try.prog 21 #[.agg #[.string k, .int .i64 x, .int .i64 o]] w fun e w' => e = .returned (.agg #[.int .i64 A, .int .i64 D]) ∧ Below w.heap.size w w') := fun w => by rw [hA, hD]; exact ratio_all k x o w ho
        clear hA hD
        refine start_ (n := 8) (S := fun w' => w'.cell? ⟨w.heap.size, 0, none⟩ = some (.string k) ∧ w'.cell? ⟨w.heap.size, 1, none⟩ = some (.int .i64 x) ∧ w'.cell? ⟨w.heap.size, 2, none⟩ = some (.int .i64 o) ∧ w'.cell? ⟨w.heap.size + 1, 0, none⟩ = some (.int .i64 A) ∧ w'.cell? ⟨w.heap.size + 1, 1, none⟩ = some (.int .i64 D)) (ds := []) #[false, false, false, false, false, false, false, false] (by kernel_rfl) rfl rfl ⟨(blk_cell hB1.out 0), (blk_cell hB1.out 1), (blk_cell hB1.out 2), (blk_cell hB2.out 0), (blk_cell hB2.out 1)⟩ (fun hHeld => ?_)
        refine take_ (i := 0) (N := some 24) (v := ?_) (a' := ?_) #[true, false, false, false, false, false, false, false] rfl rfl (by kernel_rfl) (fun _ _ _ h => h) (Or.inl ⟨by rfl, ?_⟩) hHeld ?_ ?_
        rotate_left
        · rintro w' ⟨s0, s1, s2, s3, s4⟩
          go_simp
          with_reducible rfl
        rotate_left
        · simp only [Act.put, List.setIfInBounds_toArray, List.set_cons_zero, List.set_cons_succ, i64_w, i32_w]
          rfl
        refine take_ (i := 2) (N := some 26) (v := ?_) (a' := ?_) #[true, false, true, false, false, false, false, false] rfl rfl (by kernel_rfl) (fun _ _ _ h => h) (Or.inl ⟨by rfl, ?_⟩) hHeld ?_ ?_
        rotate_left
        · rintro w' ⟨s0, s1, s2, s3, s4⟩
          go_simp
          with_reducible rfl
        rotate_left
        · simp only [Act.put, List.setIfInBounds_toArray, List.set_cons_zero, List.set_cons_succ, i64_w, i32_w]
          rfl
        refine one_ (i := 1) (N := some 25) #[true, true, true, false, false, false, false, false] rfl rfl (by kernel_rfl) (by decide) (fun K hK => ?_)
        refine goes_ Try.func21 (by kernel_rfl) rfl #[.agg #[.string k, .int .i64 x, .int .i64 o]] (by rfl) rfl rfl (by (try simp only [List.map_toArray, List.map_cons, List.map_nil]); first | done | rfl) ?_
        with_reducible refine (HRC.out _).mono ?_
        rintro e w3 ⟨rfl, hb⟩
        refine ⟨_, rfl, ?_⟩
        replace hB1 := Lib.hid (blk_below hB1.out hb (blk_lt hB1.out))
        replace hB2 := Lib.hid (blk_below hB2.out hb (blk_lt hB2.out))
        replace HB := Lib.hid (HB.out.trans ((show Below _ _ _ from hb).mono HB.out.size))
        clear hb
        refine hK.out _ _ ⟨(blk_cell hB1.out 0), (blk_cell hB1.out 1), (blk_cell hB1.out 2), (blk_cell hB2.out 0), (blk_cell hB2.out 1)⟩ (fun hHeld => ?_)
        clear hK K
        refine norm_ (a' := ?_) ?_ ?_
        rotate_left
        · show Act.put _ (some 25) _ = _
          simp only [Act.put, List.setIfInBounds_toArray, List.set_cons_zero, List.set_cons_succ, i64_w, i32_w]
          rfl
        refine pure_ (i := 3) (N := some 27) (v := ?_) (a' := ?_) #[true, true, true, true, false, false, false, false] rfl rfl (by kernel_rfl) (fun _ _ _ h => h) (Or.inl ⟨by rfl, ?_⟩) ?_ ?_
        rotate_left
        · intro w'
          go_simp
          with_reducible rfl
        rotate_left
        · simp only [Act.put, List.setIfInBounds_toArray, List.set_cons_zero, List.set_cons_succ, i64_w, i32_w]
          rfl
        refine pure_ (i := 4) (N := some 28) (v := ?_) (a' := ?_) #[true, true, true, true, true, false, false, false] rfl rfl (by kernel_rfl) (fun _ _ _ h => h) (Or.inl ⟨by rfl, ?_⟩) ?_ ?_
        rotate_left
        · intro w'
          go_simp
          with_reducible rfl
        rotate_left
        · simp only [Act.put, List.setIfInBounds_toArray, List.set_cons_zero, List.set_cons_succ, i64_w, i32_w]
          rfl
        refine one_ (i := 5) (N := some 29) #[true, true, true, true, true, true, false, false] rfl rfl (by kernel_rfl) (by decide) (fun K hK => ?_)
        refine goes_ Try.func33 (by kernel_rfl) rfl #[] (by rfl) rfl rfl (by (try simp only [List.map_toArray, List.map_cons, List.map_nil]); first | done | rfl) ?_
        with_reducible refine (awake19_calls _).mono ?_
        rintro e w4 ⟨rfl, hb⟩
        refine ⟨_, rfl, ?_⟩
        replace hB1 := Lib.hid (blk_below hB1.out hb (blk_lt hB1.out))
        replace hB2 := Lib.hid (blk_below hB2.out hb (blk_lt hB2.out))
        replace HB := Lib.hid (HB.out.trans ((show Below _ _ _ from hb).mono HB.out.size))
        clear hb
        refine hK.out _ _ ⟨(blk_cell hB1.out 0), (blk_cell hB1.out 1), (blk_cell hB1.out 2), (blk_cell hB2.out 0), (blk_cell hB2.out 1)⟩ (fun hHeld => ?_)
        clear hK K
        refine norm_ (a' := ?_) ?_ ?_
        rotate_left
        · show Act.put _ (some 29) _ = _
          simp only [Act.put, List.setIfInBounds_toArray, List.set_cons_zero, List.set_cons_succ, i64_w, i32_w]
          rfl
        refine pure_ (i := 6) (N := some 30) (v := ?_) (a' := ?_) #[true, true, true, true, true, true, true, false] rfl rfl (by kernel_rfl) (fun _ _ _ h => h) (Or.inl ⟨by rfl, ?_⟩) ?_ ?_
        rotate_left
        · intro w'
          go_simp
          with_reducible rfl
        rotate_left
        · simp only [Act.put, List.setIfInBounds_toArray, List.set_cons_zero, List.set_cons_succ, i64_w, i32_w]
          rfl
        refine pure_ (i := 7) (N := some 2) (v := ?_) (a' := ?_) #[true, true, true, true, true, true, true, true] rfl rfl (by kernel_rfl) (fun _ _ _ h => h) (Or.inl ⟨by rfl, ?_⟩) ?_ ?_
        rotate_left
        · intro w'
          go_simp
          with_reducible rfl
        rotate_left
        · simp only [Act.put, List.setIfInBounds_toArray, List.set_cons_zero, List.set_cons_succ, i64_w, i32_w]
          rfl
        refine done_ (by kernel_rfl) ?_
        go_wp2
        go_ret
        exact ⟨rfl, HB.out⟩
      · have d3 : decide (o < 9223372036854775807) = false := by simpa using h4
        have e1 : ratN x o = 0 := by unfold ratN; rw [if_neg (fun h => h.2.2 (by omega))]
        have e2 : ratD x o = 1 := by unfold ratD; rw [if_neg (fun h => h.2.2 (by omega))]
        replace e1 := Lib.hid e1
        replace e2 := Lib.hid e2
        go_enter Try.func7, Try.ntmps7
        go_wp2_with fail
        refine name_w (fun w' => (w'.drew.heap[w.heap.size]? = some (.cells #[.string k, .int .i64 x, .int .i64 o] 35 (0, 0)) ∧ w'.drew.heap[w.heap.size + 1]? = some (.cells #[.int .i64 (ratN x o), .int .i64 (ratD x o)] 39 (0, 0))) ∧ Below w.heap.size w w'.drew) ⟨⟨blk_old (blk_new w _) _, by rw [e1.out, e2.out]; exact blk_new2 w _ _⟩, (((Below.refl _ w).alloc (Nat.le_refl _) _).alloc (by simp) _).drew⟩ ?_
        clear e1 e2
        rintro w0 ⟨⟨hB1, hB2⟩, HB⟩
        replace hB1 := Lib.hid hB1
        replace hB2 := Lib.hid hB2
        replace HB := Lib.hid HB
        obtain ⟨A, hA⟩ : ∃ A, A = ratN x o := ⟨_, rfl⟩
        obtain ⟨D, hD⟩ : ∃ D, D = ratD x o := ⟨_, rfl⟩
        rw [← hA, ← hD] at hB2
        have HRC : Hid (∀ w, Calls Try.prog 21 #[.agg #[.string k, .int .i64 x, .int .i64 o]] w fun e w' => e = .returned (.agg #[.int .i64 A, .int .i64 D]) ∧ Below w.heap.size w w') := fun w => by rw [hA, hD]; exact ratio_all k x o w ho
        clear hA hD
        refine start_ (n := 8) (S := fun w' => w'.cell? ⟨w.heap.size, 0, none⟩ = some (.string k) ∧ w'.cell? ⟨w.heap.size, 1, none⟩ = some (.int .i64 x) ∧ w'.cell? ⟨w.heap.size, 2, none⟩ = some (.int .i64 o) ∧ w'.cell? ⟨w.heap.size + 1, 0, none⟩ = some (.int .i64 A) ∧ w'.cell? ⟨w.heap.size + 1, 1, none⟩ = some (.int .i64 D)) (ds := []) #[false, false, false, false, false, false, false, false] (by kernel_rfl) rfl rfl ⟨(blk_cell hB1.out 0), (blk_cell hB1.out 1), (blk_cell hB1.out 2), (blk_cell hB2.out 0), (blk_cell hB2.out 1)⟩ (fun hHeld => ?_)
        refine take_ (i := 0) (N := some 24) (v := ?_) (a' := ?_) #[true, false, false, false, false, false, false, false] rfl rfl (by kernel_rfl) (fun _ _ _ h => h) (Or.inl ⟨by rfl, ?_⟩) hHeld ?_ ?_
        rotate_left
        · rintro w' ⟨s0, s1, s2, s3, s4⟩
          go_simp
          with_reducible rfl
        rotate_left
        · simp only [Act.put, List.setIfInBounds_toArray, List.set_cons_zero, List.set_cons_succ, i64_w, i32_w]
          rfl
        refine take_ (i := 2) (N := some 26) (v := ?_) (a' := ?_) #[true, false, true, false, false, false, false, false] rfl rfl (by kernel_rfl) (fun _ _ _ h => h) (Or.inl ⟨by rfl, ?_⟩) hHeld ?_ ?_
        rotate_left
        · rintro w' ⟨s0, s1, s2, s3, s4⟩
          go_simp
          with_reducible rfl
        rotate_left
        · simp only [Act.put, List.setIfInBounds_toArray, List.set_cons_zero, List.set_cons_succ, i64_w, i32_w]
          rfl
        refine one_ (i := 1) (N := some 25) #[true, true, true, false, false, false, false, false] rfl rfl (by kernel_rfl) (by decide) (fun K hK => ?_)
        refine goes_ Try.func21 (by kernel_rfl) rfl #[.agg #[.string k, .int .i64 x, .int .i64 o]] (by rfl) rfl rfl (by (try simp only [List.map_toArray, List.map_cons, List.map_nil]); first | done | rfl) ?_
        with_reducible refine (HRC.out _).mono ?_
        rintro e w3 ⟨rfl, hb⟩
        refine ⟨_, rfl, ?_⟩
        replace hB1 := Lib.hid (blk_below hB1.out hb (blk_lt hB1.out))
        replace hB2 := Lib.hid (blk_below hB2.out hb (blk_lt hB2.out))
        replace HB := Lib.hid (HB.out.trans ((show Below _ _ _ from hb).mono HB.out.size))
        clear hb
        refine hK.out _ _ ⟨(blk_cell hB1.out 0), (blk_cell hB1.out 1), (blk_cell hB1.out 2), (blk_cell hB2.out 0), (blk_cell hB2.out 1)⟩ (fun hHeld => ?_)
        clear hK K
        refine norm_ (a' := ?_) ?_ ?_
        rotate_left
        · show Act.put _ (some 25) _ = _
          simp only [Act.put, List.setIfInBounds_toArray, List.set_cons_zero, List.set_cons_succ, i64_w, i32_w]
          rfl
        refine pure_ (i := 3) (N := some 27) (v := ?_) (a' := ?_) #[true, true, true, true, false, false, false, false] rfl rfl (by kernel_rfl) (fun _ _ _ h => h) (Or.inl ⟨by rfl, ?_⟩) ?_ ?_
        rotate_left
        · intro w'
          go_simp
          with_reducible rfl
        rotate_left
        · simp only [Act.put, List.setIfInBounds_toArray, List.set_cons_zero, List.set_cons_succ, i64_w, i32_w]
          rfl
        refine pure_ (i := 4) (N := some 28) (v := ?_) (a' := ?_) #[true, true, true, true, true, false, false, false] rfl rfl (by kernel_rfl) (fun _ _ _ h => h) (Or.inl ⟨by rfl, ?_⟩) ?_ ?_
        rotate_left
        · intro w'
          go_simp
          with_reducible rfl
        rotate_left
        · simp only [Act.put, List.setIfInBounds_toArray, List.set_cons_zero, List.set_cons_succ, i64_w, i32_w]
          rfl
        refine one_ (i := 5) (N := some 29) #[true, true, true, true, true, true, false, false] rfl rfl (by kernel_rfl) (by decide) (fun K hK => ?_)
        refine goes_ Try.func33 (by kernel_rfl) rfl #[] (by rfl) rfl rfl (by (try simp only [List.map_toArray, List.map_cons, List.map_nil]); first | done | rfl) ?_
        with_reducible refine (awake19_calls _).mono ?_
        rintro e w4 ⟨rfl, hb⟩
        refine ⟨_, rfl, ?_⟩
        replace hB1 := Lib.hid (blk_below hB1.out hb (blk_lt hB1.out))
        replace hB2 := Lib.hid (blk_below hB2.out hb (blk_lt hB2.out))
        replace HB := Lib.hid (HB.out.trans ((show Below _ _ _ from hb).mono HB.out.size))
        clear hb
        refine hK.out _ _ ⟨(blk_cell hB1.out 0), (blk_cell hB1.out 1), (blk_cell hB1.out 2), (blk_cell hB2.out 0), (blk_cell hB2.out 1)⟩ (fun hHeld => ?_)
        clear hK K
        refine norm_ (a' := ?_) ?_ ?_
        rotate_left
        · show Act.put _ (some 29) _ = _
          simp only [Act.put, List.setIfInBounds_toArray, List.set_cons_zero, List.set_cons_succ, i64_w, i32_w]
          rfl
        refine pure_ (i := 6) (N := some 30) (v := ?_) (a' := ?_) #[true, true, true, true, true, true, true, false] rfl rfl (by kernel_rfl) (fun _ _ _ h => h) (Or.inl ⟨by rfl, ?_⟩) ?_ ?_
        rotate_left
        · intro w'
          go_simp
          with_reducible rfl
        rotate_left
        · simp only [Act.put, List.setIfInBounds_toArray, List.set_cons_zero, List.set_cons_succ, i64_w, i32_w]
          rfl
        refine pure_ (i := 7) (N := some 2) (v := ?_) (a' := ?_) #[true, true, true, true, true, true, true, true] rfl rfl (by kernel_rfl) (fun _ _ _ h => h) (Or.inl ⟨by rfl, ?_⟩) ?_ ?_
        rotate_left
        · intro w'
          go_simp
          with_reducible rfl
        rotate_left
        · simp only [Act.put, List.setIfInBounds_toArray, List.set_cons_zero, List.set_cons_succ, i64_w, i32_w]
          rfl
        refine done_ (by kernel_rfl) ?_
        go_wp2
        go_ret
        exact ⟨rfl, HB.out⟩
    · have d2 : decide (0 ≤ o) = false := by simpa using h2
      have e1 : ratN x o = 0 := by unfold ratN; rw [if_neg (fun h => h2 h.2.1)]
      have e2 : ratD x o = 1 := by unfold ratD; rw [if_neg (fun h => h2 h.2.1)]
      replace e1 := Lib.hid e1
      replace e2 := Lib.hid e2
      go_enter Try.func7, Try.ntmps7
      go_wp2_with fail
      refine name_w (fun w' => (w'.drew.heap[w.heap.size]? = some (.cells #[.string k, .int .i64 x, .int .i64 o] 35 (0, 0)) ∧ w'.drew.heap[w.heap.size + 1]? = some (.cells #[.int .i64 (ratN x o), .int .i64 (ratD x o)] 39 (0, 0))) ∧ Below w.heap.size w w'.drew) ⟨⟨blk_old (blk_new w _) _, by rw [e1.out, e2.out]; exact blk_new2 w _ _⟩, (((Below.refl _ w).alloc (Nat.le_refl _) _).alloc (by simp) _).drew⟩ ?_
      clear e1 e2
      rintro w0 ⟨⟨hB1, hB2⟩, HB⟩
      replace hB1 := Lib.hid hB1
      replace hB2 := Lib.hid hB2
      replace HB := Lib.hid HB
      obtain ⟨A, hA⟩ : ∃ A, A = ratN x o := ⟨_, rfl⟩
      obtain ⟨D, hD⟩ : ∃ D, D = ratD x o := ⟨_, rfl⟩
      rw [← hA, ← hD] at hB2
      have HRC : Hid (∀ w, Calls Try.prog 21 #[.agg #[.string k, .int .i64 x, .int .i64 o]] w fun e w' => e = .returned (.agg #[.int .i64 A, .int .i64 D]) ∧ Below w.heap.size w w') := fun w => by rw [hA, hD]; exact ratio_all k x o w ho
      clear hA hD
      refine start_ (n := 8) (S := fun w' => w'.cell? ⟨w.heap.size, 0, none⟩ = some (.string k) ∧ w'.cell? ⟨w.heap.size, 1, none⟩ = some (.int .i64 x) ∧ w'.cell? ⟨w.heap.size, 2, none⟩ = some (.int .i64 o) ∧ w'.cell? ⟨w.heap.size + 1, 0, none⟩ = some (.int .i64 A) ∧ w'.cell? ⟨w.heap.size + 1, 1, none⟩ = some (.int .i64 D)) (ds := []) #[false, false, false, false, false, false, false, false] (by kernel_rfl) rfl rfl ⟨(blk_cell hB1.out 0), (blk_cell hB1.out 1), (blk_cell hB1.out 2), (blk_cell hB2.out 0), (blk_cell hB2.out 1)⟩ (fun hHeld => ?_)
      refine take_ (i := 0) (N := some 24) (v := ?_) (a' := ?_) #[true, false, false, false, false, false, false, false] rfl rfl (by kernel_rfl) (fun _ _ _ h => h) (Or.inl ⟨by rfl, ?_⟩) hHeld ?_ ?_
      rotate_left
      · rintro w' ⟨s0, s1, s2, s3, s4⟩
        go_simp
        with_reducible rfl
      rotate_left
      · simp only [Act.put, List.setIfInBounds_toArray, List.set_cons_zero, List.set_cons_succ, i64_w, i32_w]
        rfl
      refine take_ (i := 2) (N := some 26) (v := ?_) (a' := ?_) #[true, false, true, false, false, false, false, false] rfl rfl (by kernel_rfl) (fun _ _ _ h => h) (Or.inl ⟨by rfl, ?_⟩) hHeld ?_ ?_
      rotate_left
      · rintro w' ⟨s0, s1, s2, s3, s4⟩
        go_simp
        with_reducible rfl
      rotate_left
      · simp only [Act.put, List.setIfInBounds_toArray, List.set_cons_zero, List.set_cons_succ, i64_w, i32_w]
        rfl
      refine one_ (i := 1) (N := some 25) #[true, true, true, false, false, false, false, false] rfl rfl (by kernel_rfl) (by decide) (fun K hK => ?_)
      refine goes_ Try.func21 (by kernel_rfl) rfl #[.agg #[.string k, .int .i64 x, .int .i64 o]] (by rfl) rfl rfl (by (try simp only [List.map_toArray, List.map_cons, List.map_nil]); first | done | rfl) ?_
      with_reducible refine (HRC.out _).mono ?_
      rintro e w3 ⟨rfl, hb⟩
      refine ⟨_, rfl, ?_⟩
      replace hB1 := Lib.hid (blk_below hB1.out hb (blk_lt hB1.out))
      replace hB2 := Lib.hid (blk_below hB2.out hb (blk_lt hB2.out))
      replace HB := Lib.hid (HB.out.trans ((show Below _ _ _ from hb).mono HB.out.size))
      clear hb
      refine hK.out _ _ ⟨(blk_cell hB1.out 0), (blk_cell hB1.out 1), (blk_cell hB1.out 2), (blk_cell hB2.out 0), (blk_cell hB2.out 1)⟩ (fun hHeld => ?_)
      clear hK K
      refine norm_ (a' := ?_) ?_ ?_
      rotate_left
      · show Act.put _ (some 25) _ = _
        simp only [Act.put, List.setIfInBounds_toArray, List.set_cons_zero, List.set_cons_succ, i64_w, i32_w]
        rfl
      refine pure_ (i := 3) (N := some 27) (v := ?_) (a' := ?_) #[true, true, true, true, false, false, false, false] rfl rfl (by kernel_rfl) (fun _ _ _ h => h) (Or.inl ⟨by rfl, ?_⟩) ?_ ?_
      rotate_left
      · intro w'
        go_simp
        with_reducible rfl
      rotate_left
      · simp only [Act.put, List.setIfInBounds_toArray, List.set_cons_zero, List.set_cons_succ, i64_w, i32_w]
        rfl
      refine pure_ (i := 4) (N := some 28) (v := ?_) (a' := ?_) #[true, true, true, true, true, false, false, false] rfl rfl (by kernel_rfl) (fun _ _ _ h => h) (Or.inl ⟨by rfl, ?_⟩) ?_ ?_
      rotate_left
      · intro w'
        go_simp
        with_reducible rfl
      rotate_left
      · simp only [Act.put, List.setIfInBounds_toArray, List.set_cons_zero, List.set_cons_succ, i64_w, i32_w]
        rfl
      refine one_ (i := 5) (N := some 29) #[true, true, true, true, true, true, false, false] rfl rfl (by kernel_rfl) (by decide) (fun K hK => ?_)
      refine goes_ Try.func33 (by kernel_rfl) rfl #[] (by rfl) rfl rfl (by (try simp only [List.map_toArray, List.map_cons, List.map_nil]); first | done | rfl) ?_
      with_reducible refine (awake19_calls _).mono ?_
      rintro e w4 ⟨rfl, hb⟩
      refine ⟨_, rfl, ?_⟩
      replace hB1 := Lib.hid (blk_below hB1.out hb (blk_lt hB1.out))
      replace hB2 := Lib.hid (blk_below hB2.out hb (blk_lt hB2.out))
      replace HB := Lib.hid (HB.out.trans ((show Below _ _ _ from hb).mono HB.out.size))
      clear hb
      refine hK.out _ _ ⟨(blk_cell hB1.out 0), (blk_cell hB1.out 1), (blk_cell hB1.out 2), (blk_cell hB2.out 0), (blk_cell hB2.out 1)⟩ (fun hHeld => ?_)
      clear hK K
      refine norm_ (a' := ?_) ?_ ?_
      rotate_left
      · show Act.put _ (some 29) _ = _
        simp only [Act.put, List.setIfInBounds_toArray, List.set_cons_zero, List.set_cons_succ, i64_w, i32_w]
        rfl
      refine pure_ (i := 6) (N := some 30) (v := ?_) (a' := ?_) #[true, true, true, true, true, true, true, false] rfl rfl (by kernel_rfl) (fun _ _ _ h => h) (Or.inl ⟨by rfl, ?_⟩) ?_ ?_
      rotate_left
      · intro w'
        go_simp
        with_reducible rfl
      rotate_left
      · simp only [Act.put, List.setIfInBounds_toArray, List.set_cons_zero, List.set_cons_succ, i64_w, i32_w]
        rfl
      refine pure_ (i := 7) (N := some 2) (v := ?_) (a' := ?_) #[true, true, true, true, true, true, true, true] rfl rfl (by kernel_rfl) (fun _ _ _ h => h) (Or.inl ⟨by rfl, ?_⟩) ?_ ?_
      rotate_left
      · intro w'
        go_simp
        with_reducible rfl
      rotate_left
      · simp only [Act.put, List.setIfInBounds_toArray, List.set_cons_zero, List.set_cons_succ, i64_w, i32_w]
        rfl
      refine done_ (by kernel_rfl) ?_
      go_wp2
      go_ret
      exact ⟨rfl, HB.out⟩
  · have d1 : decide (0 ≤ x) = false := by simpa using h0
    have e1 : ratN x o = 0 := by unfold ratN; rw [if_neg (fun h => h0 h.1)]
    have e2 : ratD x o = 1 := by unfold ratD; rw [if_neg (fun h => h0 h.1)]
    replace e1 := Lib.hid e1
    replace e2 := Lib.hid e2
    go_enter Try.func7, Try.ntmps7
    go_wp2_with fail
    refine name_w (fun w' => (w'.drew.heap[w.heap.size]? = some (.cells #[.string k, .int .i64 x, .int .i64 o] 35 (0, 0)) ∧ w'.drew.heap[w.heap.size + 1]? = some (.cells #[.int .i64 (ratN x o), .int .i64 (ratD x o)] 39 (0, 0))) ∧ Below w.heap.size w w'.drew) ⟨⟨blk_old (blk_new w _) _, by rw [e1.out, e2.out]; exact blk_new2 w _ _⟩, (((Below.refl _ w).alloc (Nat.le_refl _) _).alloc (by simp) _).drew⟩ ?_
    clear e1 e2
    rintro w0 ⟨⟨hB1, hB2⟩, HB⟩
    replace hB1 := Lib.hid hB1
    replace hB2 := Lib.hid hB2
    replace HB := Lib.hid HB
    obtain ⟨A, hA⟩ : ∃ A, A = ratN x o := ⟨_, rfl⟩
    obtain ⟨D, hD⟩ : ∃ D, D = ratD x o := ⟨_, rfl⟩
    rw [← hA, ← hD] at hB2
    have HRC : Hid (∀ w, Calls Try.prog 21 #[.agg #[.string k, .int .i64 x, .int .i64 o]] w fun e w' => e = .returned (.agg #[.int .i64 A, .int .i64 D]) ∧ Below w.heap.size w w') := fun w => by rw [hA, hD]; exact ratio_all k x o w ho
    clear hA hD
    refine start_ (n := 8) (S := fun w' => w'.cell? ⟨w.heap.size, 0, none⟩ = some (.string k) ∧ w'.cell? ⟨w.heap.size, 1, none⟩ = some (.int .i64 x) ∧ w'.cell? ⟨w.heap.size, 2, none⟩ = some (.int .i64 o) ∧ w'.cell? ⟨w.heap.size + 1, 0, none⟩ = some (.int .i64 A) ∧ w'.cell? ⟨w.heap.size + 1, 1, none⟩ = some (.int .i64 D)) (ds := []) #[false, false, false, false, false, false, false, false] (by kernel_rfl) rfl rfl ⟨(blk_cell hB1.out 0), (blk_cell hB1.out 1), (blk_cell hB1.out 2), (blk_cell hB2.out 0), (blk_cell hB2.out 1)⟩ (fun hHeld => ?_)
    refine take_ (i := 0) (N := some 24) (v := ?_) (a' := ?_) #[true, false, false, false, false, false, false, false] rfl rfl (by kernel_rfl) (fun _ _ _ h => h) (Or.inl ⟨by rfl, ?_⟩) hHeld ?_ ?_
    rotate_left
    · rintro w' ⟨s0, s1, s2, s3, s4⟩
      go_simp
      with_reducible rfl
    rotate_left
    · simp only [Act.put, List.setIfInBounds_toArray, List.set_cons_zero, List.set_cons_succ, i64_w, i32_w]
      rfl
    refine take_ (i := 2) (N := some 26) (v := ?_) (a' := ?_) #[true, false, true, false, false, false, false, false] rfl rfl (by kernel_rfl) (fun _ _ _ h => h) (Or.inl ⟨by rfl, ?_⟩) hHeld ?_ ?_
    rotate_left
    · rintro w' ⟨s0, s1, s2, s3, s4⟩
      go_simp
      with_reducible rfl
    rotate_left
    · simp only [Act.put, List.setIfInBounds_toArray, List.set_cons_zero, List.set_cons_succ, i64_w, i32_w]
      rfl
    refine one_ (i := 1) (N := some 25) #[true, true, true, false, false, false, false, false] rfl rfl (by kernel_rfl) (by decide) (fun K hK => ?_)
    refine goes_ Try.func21 (by kernel_rfl) rfl #[.agg #[.string k, .int .i64 x, .int .i64 o]] (by rfl) rfl rfl (by (try simp only [List.map_toArray, List.map_cons, List.map_nil]); first | done | rfl) ?_
    with_reducible refine (HRC.out _).mono ?_
    rintro e w3 ⟨rfl, hb⟩
    refine ⟨_, rfl, ?_⟩
    replace hB1 := Lib.hid (blk_below hB1.out hb (blk_lt hB1.out))
    replace hB2 := Lib.hid (blk_below hB2.out hb (blk_lt hB2.out))
    replace HB := Lib.hid (HB.out.trans ((show Below _ _ _ from hb).mono HB.out.size))
    clear hb
    refine hK.out _ _ ⟨(blk_cell hB1.out 0), (blk_cell hB1.out 1), (blk_cell hB1.out 2), (blk_cell hB2.out 0), (blk_cell hB2.out 1)⟩ (fun hHeld => ?_)
    clear hK K
    refine norm_ (a' := ?_) ?_ ?_
    rotate_left
    · show Act.put _ (some 25) _ = _
      simp only [Act.put, List.setIfInBounds_toArray, List.set_cons_zero, List.set_cons_succ, i64_w, i32_w]
      rfl
    refine pure_ (i := 3) (N := some 27) (v := ?_) (a' := ?_) #[true, true, true, true, false, false, false, false] rfl rfl (by kernel_rfl) (fun _ _ _ h => h) (Or.inl ⟨by rfl, ?_⟩) ?_ ?_
    rotate_left
    · intro w'
      go_simp
      with_reducible rfl
    rotate_left
    · simp only [Act.put, List.setIfInBounds_toArray, List.set_cons_zero, List.set_cons_succ, i64_w, i32_w]
      rfl
    refine pure_ (i := 4) (N := some 28) (v := ?_) (a' := ?_) #[true, true, true, true, true, false, false, false] rfl rfl (by kernel_rfl) (fun _ _ _ h => h) (Or.inl ⟨by rfl, ?_⟩) ?_ ?_
    rotate_left
    · intro w'
      go_simp
      with_reducible rfl
    rotate_left
    · simp only [Act.put, List.setIfInBounds_toArray, List.set_cons_zero, List.set_cons_succ, i64_w, i32_w]
      rfl
    refine one_ (i := 5) (N := some 29) #[true, true, true, true, true, true, false, false] rfl rfl (by kernel_rfl) (by decide) (fun K hK => ?_)
    refine goes_ Try.func33 (by kernel_rfl) rfl #[] (by rfl) rfl rfl (by (try simp only [List.map_toArray, List.map_cons, List.map_nil]); first | done | rfl) ?_
    with_reducible refine (awake19_calls _).mono ?_
    rintro e w4 ⟨rfl, hb⟩
    refine ⟨_, rfl, ?_⟩
    replace hB1 := Lib.hid (blk_below hB1.out hb (blk_lt hB1.out))
    replace hB2 := Lib.hid (blk_below hB2.out hb (blk_lt hB2.out))
    replace HB := Lib.hid (HB.out.trans ((show Below _ _ _ from hb).mono HB.out.size))
    clear hb
    refine hK.out _ _ ⟨(blk_cell hB1.out 0), (blk_cell hB1.out 1), (blk_cell hB1.out 2), (blk_cell hB2.out 0), (blk_cell hB2.out 1)⟩ (fun hHeld => ?_)
    clear hK K
    refine norm_ (a' := ?_) ?_ ?_
    rotate_left
    · show Act.put _ (some 29) _ = _
      simp only [Act.put, List.setIfInBounds_toArray, List.set_cons_zero, List.set_cons_succ, i64_w, i32_w]
      rfl
    refine pure_ (i := 6) (N := some 30) (v := ?_) (a' := ?_) #[true, true, true, true, true, true, true, false] rfl rfl (by kernel_rfl) (fun _ _ _ h => h) (Or.inl ⟨by rfl, ?_⟩) ?_ ?_
    rotate_left
    · intro w'
      go_simp
      with_reducible rfl
    rotate_left
    · simp only [Act.put, List.setIfInBounds_toArray, List.set_cons_zero, List.set_cons_succ, i64_w, i32_w]
      rfl
    refine pure_ (i := 7) (N := some 2) (v := ?_) (a' := ?_) #[true, true, true, true, true, true, true, true] rfl rfl (by kernel_rfl) (fun _ _ _ h => h) (Or.inl ⟨by rfl, ?_⟩) ?_ ?_
    rotate_left
    · intro w'
      go_simp
      with_reducible rfl
    rotate_left
    · simp only [Act.put, List.setIfInBounds_toArray, List.set_cons_zero, List.set_cons_succ, i64_w, i32_w]
      rfl
    refine done_ (by kernel_rfl) ?_
    go_wp2
    go_ret
    exact ⟨rfl, HB.out⟩
end Go.Proofs.Ytmddlbgdmdepdaa
