/- WindowTops: the law's function returns true, by a walk. No condition. -/
import Derived.Test.YtmddlbgdmdepdaaRefD
import Derived.Test.YtmddlbgdmdepdaaWinD
set_option linter.unusedVariables false
set_option linter.unusedSimpArgs false
set_option maxRecDepth 100000
namespace Go.Proofs.Ytmddlbgdmdepdaa
open Go.Maps Go.MapKept Go.RowKit Go.ChangeMaps Go.Shelf CK Go.Proofs.YtmddlbgdmdepdaaW.PrintLast

theorem sums_len (wd : Int) (l : List Add) : (sumsOf wd l).length ≤ l.length := by
  refine snoc_ind (p := fun l => (sumsOf wd l).length ≤ l.length) (by simp [sumsOf]) (fun l a ih => ?_) l
  rw [sumsOf_snoc, List.length_append, List.length_singleton]
  split
  · unfold addTo
    split
    · unfold putA
      split
      · rw [List.length_map]; omega
      · rw [List.length_append, List.length_singleton]; omega
    · omega
  · omega
/-- the first keys are the document's -/
def topOf (l : List Add) (sz hp wd e n : Int) : List Cn := (refTop [] (fun key => if mayB sz hp wd && endB hp e then atSum l sz e key else 0) l []).take (min (max n 0) (refTop [] (fun key => if mayB sz hp wd && endB hp e then atSum l sz e key else 0) l []).length).toNat
theorem wtop_calls (w : World) (l : List Add) (sz hp wd ad e n : Int) (p b : Nat) (h : PanesAt w p wd ad b (sumsOf wd l)) (hl : l.length ≤ 60) :
    Calls Try.prog 26 #[.pointer (some ⟨p, 0, none⟩), .agg #[.int .i64 sz, .int .i64 hp], .int .i64 e, .int .i64 n] w (TopPost w (topOf l sz hp wd e n)) := by
  have hm : (sumsOf wd l).length ≤ 1048576 := by have := sums_len wd l; omega
  cases hc : (mayB sz hp wd && endB hp e)
  · refine (top_no w sz hp e n p wd ad b _ h hc).mono fun e' w' h' => ?_
    have : topOf l sz hp wd e n = [] := by
      unfold topOf
      simp only [hc, Bool.false_eq_true, if_false]
      rw [refTop_none]; simp
    rw [this]; exact h'
  · refine (top_calls w sz hp e n p wd ad b _ h hm hc).mono fun e' w' ⟨ks, h1, h2⟩ => ?_
    have hc' := hc
    simp only [Bool.and_eq_true] at hc'
    obtain ⟨q1, q2⟩ := endB_mod hc'.1 hc'.2
    have e1 := tops_plain l wd (mayB_facts hc'.1).1 (e - sz) e q2 q1 ks h1
    have e2 : topOf l sz hp wd e n = (sortC (cntsOf (sumsOf wd l) ks ((e - sz) / wd) (e / wd))).take (min (max n 0) ks.length).toNat := by
      unfold topOf
      simp only [hc, if_true, atSum_range]
      rw [e1]
      have h3 : (refTop [] (fun key => rangeSum l key (e - sz) e) l []).length = ks.length := by
        rw [← e1, (sortC_perm _).length_eq, cntsOf, List.length_map]
      rw [h3]
    rw [e2]; exact h2
theorem rtop_of (w : World) (l : List Add) (v : Value) (sz hp wd e n : Int) (h : AddsAt w l v) (hl : l.length ≤ 60) :
    Calls Try.prog 27 #[v, .agg #[.int .i64 sz, .int .i64 hp], .int .i64 wd, .int .i64 e, .int .i64 n] w (TopPost w (topOf l sz hp wd e n)) := rtop_calls w l v sz hp wd e n h hl
set_option maxHeartbeats 2000000 in
theorem law_tops (n : Int) (l : List Add) (v : Value) (s : Spec) (e m : Int) (w : World) (h0 : (Lit.int .i64 n).wf = true) (hl : AddsAt w l v) (hs : s.ok) (he : (Lit.int .i64 e).wf = true) (hm : (Lit.int .i64 m).wf = true) :
    Calls Try.prog 4 #[.int .i64 n, v, .agg s.cs.toArray, .int .i64 e, .int .i64 m] w (BoolPost w true) := by
  obtain ⟨sz, hp⟩ := s
  show Calls Try.prog _ #[_, _, .agg #[.int .i64 sz, .int .i64 hp], _, _] _ _
  clear h0 hs he hm
  have BK : Hid ((w.alloc (.cells #[.int .i64 sz, .int .i64 hp] 44)).heap[w.heap.size]? = some (.cells #[.int .i64 sz, .int .i64 hp] 44 (0, 0))) := blk_new w _
  have HB : Hid (Below w.heap.size w (w.alloc (.cells #[.int .i64 sz, .int .i64 hp] 44))) := (Below.refl _ w).alloc (Nat.le_refl _) _
  have HL := Lib.hid (hl.below ((Below.refl _ w).alloc (Nat.le_refl _) (.cells #[.int .i64 sz, .int .i64 hp] 44)))
  clear hl
  cases hlong : longB l
  case true =>
    have HLo := Lib.hid hlong
    clear hlong
    go_enter Try.func4, Try.ntmps4
    go_wp2_with fail
    refine (long_calls _ l _ HL.out).mono ?_
    rintro e' w1 ⟨rfl, hb⟩
    rw [HLo.out]
    have HB := Lib.hid (HB.out.trans ((show Below _ _ _ from hb).mono HB.out.size))
    have BK := Lib.hid (blk_below BK.out hb (blk_lt BK.out))
    clear hb
    go_wp2_with fail
    refine (awake_calls _).mono ?_
    rintro e' w2 ⟨rfl, hb⟩
    have HB := Lib.hid (HB.out.trans ((show Below _ _ _ from hb).mono HB.out.size))
    have BK := Lib.hid (blk_below BK.out hb (blk_lt BK.out))
    clear hb
    go_wp2
    go_ret
    exact ⟨rfl, HB.out⟩
  have hlen := longB_false hlong
  have HLo := Lib.hid hlong
  clear hlong
  go_enter Try.func4, Try.ntmps4
  go_wp2_with fail
  refine (long_calls _ l _ HL.out).mono ?_
  rintro e' w1 ⟨rfl, hb⟩
  rw [HLo.out]
  have HL := Lib.hid (HL.out.below hb)
  have HB := Lib.hid (HB.out.trans ((show Below _ _ _ from hb).mono HB.out.size))
  have BK := Lib.hid (blk_below BK.out hb (blk_lt BK.out))
  clear hb
  go_wp2_with fail
  refine (fill_calls _ n l _ HL.out hlen).mono ?_
  rintro e' w2 ⟨p, pb, rfl, hp1, _, _, hb⟩
  have HL := Lib.hid (HL.out.below hb)
  have HP := Lib.hid hp1
  clear hp1
  have HB := Lib.hid (HB.out.trans ((show Below _ _ _ from hb).mono HB.out.size))
  have BK := Lib.hid (blk_below BK.out hb (blk_lt BK.out))
  clear hb
  obtain ⟨wd, hwd⟩ : ∃ wd, wd = min (max n 1) 1099511627776 := ⟨_, rfl⟩
  rw [← hwd] at HP
  clear hwd
  obtain ⟨T, hT⟩ : ∃ T, topOf l sz hp wd e m = T := ⟨_, rfl⟩
  have HT := Lib.hid hT
  clear hT
  have HB := Lib.hid HB.out.drew
  have BKd : Hid (w2.drew.heap[w.heap.size]? = some (.cells #[.int .i64 sz, .int .i64 hp] 44 (0, 0))) := BK.out
  have HPd : Hid (PanesAt w2.drew p wd (cntOf l) pb (sumsOf wd l)) := HP.out.below (Below.refl _ _).drew
  have HLd : Hid (AddsAt w2.drew l v) := HL.out.below (Below.refl _ _).drew
  go_wp2_with fail
  have BK := BKd
  have HP := HPd
  have HL := HLd
  refine start_ (n := 25) (S := fun w' => w'.cell? ⟨w.heap.size, 0, none⟩ = some (.int .i64 sz) ∧ w'.cell? ⟨w.heap.size, 1, none⟩ = some (.int .i64 hp)) (ds := []) #[false, false, false, false, false, false, false, false, false, false, false, false, false, false, false, false, false, false, false, false, false, false, false, false, false] (by kernel_rfl) rfl rfl ⟨(blk_cell BK.out 0), (blk_cell BK.out 1)⟩ (fun hHeld => ?_)
  refine pure_ (i := 0) (N := some 20) (v := ?_) (a' := ?_) #[true, false, false, false, false, false, false, false, false, false, false, false, false, false, false, false, false, false, false, false, false, false, false, false, false] rfl rfl (by kernel_rfl) (fun _ _ _ h => h) (Or.inl ⟨by rfl, ?_⟩) ?_ ?_
  rotate_left
  · intro w'
    go_simp
    with_reducible rfl
  rotate_left
  · simp only [Act.put, List.setIfInBounds_toArray, List.set_cons_zero, List.set_cons_succ, i64_w, i32_w]
    rfl
  refine pure_ (i := 2) (N := some 22) (v := ?_) (a' := ?_) #[true, false, true, false, false, false, false, false, false, false, false, false, false, false, false, false, false, false, false, false, false, false, false, false, false] rfl rfl (by kernel_rfl) (fun _ _ _ h => h) (Or.inl ⟨by rfl, ?_⟩) ?_ ?_
  rotate_left
  · intro w'
    go_simp
    with_reducible rfl
  rotate_left
  · simp only [Act.put, List.setIfInBounds_toArray, List.set_cons_zero, List.set_cons_succ, i64_w, i32_w]
    rfl
  refine pure_ (i := 3) (N := some 23) (v := ?_) (a' := ?_) #[true, false, true, true, false, false, false, false, false, false, false, false, false, false, false, false, false, false, false, false, false, false, false, false, false] rfl rfl (by kernel_rfl) (fun _ _ _ h => h) (Or.inl ⟨by rfl, ?_⟩) ?_ ?_
  rotate_left
  · intro w'
    go_simp
    with_reducible rfl
  rotate_left
  · simp only [Act.put, List.setIfInBounds_toArray, List.set_cons_zero, List.set_cons_succ, i64_w, i32_w]
    rfl
  refine pure_ (i := 5) (N := some 25) (v := ?_) (a' := ?_) #[true, false, true, true, false, true, false, false, false, false, false, false, false, false, false, false, false, false, false, false, false, false, false, false, false] rfl rfl (by kernel_rfl) (fun _ _ _ h => h) (Or.inl ⟨by rfl, ?_⟩) ?_ ?_
  rotate_left
  · intro w'
    go_simp
    with_reducible rfl
  rotate_left
  · simp only [Act.put, List.setIfInBounds_toArray, List.set_cons_zero, List.set_cons_succ, i64_w, i32_w]
    rfl
  refine pure_ (i := 7) (N := some 27) (v := ?_) (a' := ?_) #[true, false, true, true, false, true, false, true, false, false, false, false, false, false, false, false, false, false, false, false, false, false, false, false, false] rfl rfl (by kernel_rfl) (fun _ _ _ h => h) (Or.inl ⟨by rfl, ?_⟩) ?_ ?_
  rotate_left
  · intro w'
    go_simp
    with_reducible rfl
  rotate_left
  · simp only [Act.put, List.setIfInBounds_toArray, List.set_cons_zero, List.set_cons_succ, i64_w, i32_w]
    rfl
  refine pure_ (i := 9) (N := some 29) (v := ?_) (a' := ?_) #[true, false, true, true, false, true, false, true, false, true, false, false, false, false, false, false, false, false, false, false, false, false, false, false, false] rfl rfl (by kernel_rfl) (fun _ _ _ h => h) (Or.inl ⟨by rfl, ?_⟩) ?_ ?_
  rotate_left
  · intro w'
    go_simp
    with_reducible rfl
  rotate_left
  · simp only [Act.put, List.setIfInBounds_toArray, List.set_cons_zero, List.set_cons_succ, i64_w, i32_w]
    rfl
  refine pure_ (i := 10) (N := some 30) (v := ?_) (a' := ?_) #[true, false, true, true, false, true, false, true, false, true, true, false, false, false, false, false, false, false, false, false, false, false, false, false, false] rfl rfl (by kernel_rfl) (fun _ _ _ h => h) (Or.inl ⟨by rfl, ?_⟩) ?_ ?_
  rotate_left
  · intro w'
    go_simp
    with_reducible rfl
  rotate_left
  · simp only [Act.put, List.setIfInBounds_toArray, List.set_cons_zero, List.set_cons_succ, i64_w, i32_w]
    rfl
  refine take_ (i := 1) (N := some 21) (v := ?_) (a' := ?_) #[true, true, true, true, false, true, false, true, false, true, true, false, false, false, false, false, false, false, false, false, false, false, false, false, false] rfl rfl (by kernel_rfl) (fun _ _ _ h => h) (Or.inl ⟨by rfl, ?_⟩) hHeld ?_ ?_
  rotate_left
  · rintro w' ⟨s0, s1⟩
    go_simp
    with_reducible rfl
  rotate_left
  · simp only [Act.put, List.setIfInBounds_toArray, List.set_cons_zero, List.set_cons_succ, i64_w, i32_w]
    rfl
  refine take_ (i := 6) (N := some 26) (v := ?_) (a' := ?_) #[true, true, true, true, false, true, true, true, false, true, true, false, false, false, false, false, false, false, false, false, false, false, false, false, false] rfl rfl (by kernel_rfl) (fun _ _ _ h => h) (Or.inl ⟨by rfl, ?_⟩) hHeld ?_ ?_
  rotate_left
  · rintro w' ⟨s0, s1⟩
    go_simp
    with_reducible rfl
  rotate_left
  · simp only [Act.put, List.setIfInBounds_toArray, List.set_cons_zero, List.set_cons_succ, i64_w, i32_w]
    rfl
  refine one_ (i := 4) (N := some 24) #[true, true, true, true, true, true, true, true, false, true, true, false, false, false, false, false, false, false, false, false, false, false, false, false, false] rfl rfl (by kernel_rfl) (by decide) (fun K hK => ?_)
  refine goes_ Try.func26 (by kernel_rfl) rfl #[.pointer (some ⟨p, 0, none⟩), .agg #[.int .i64 sz, .int .i64 hp], .int .i64 e, .int .i64 m] (by rfl) rfl rfl (by (try simp only [List.map_toArray, List.map_cons, List.map_nil]); first | done | rfl) ?_
  with_reducible refine (wtop_calls _ l sz hp wd _ e m _ _ HP.out hlen).mono ?_
  rintro e' w3 ⟨v1, rfl, hr1, hb⟩
  refine ⟨_, rfl, ?_⟩
  have HP := Lib.hid (HP.out.below hb)
  have HL := Lib.hid (HL.out.below hb)
  have HB := Lib.hid (HB.out.trans ((show Below _ _ _ from hb).mono HB.out.size))
  have BK := Lib.hid (blk_below BK.out hb (blk_lt BK.out))
  rw [HT.out] at hr1
  have HR1 := Lib.hid hr1
  clear hr1 hb
  refine hK.out _ _ ⟨(blk_cell BK.out 0), (blk_cell BK.out 1)⟩ (fun hHeld => ?_)
  clear hK K
  refine norm_ (a' := ?_) ?_ ?_
  rotate_left
  · show Act.put _ (some 24) _ = _
    simp only [Act.put, List.setIfInBounds_toArray, List.set_cons_zero, List.set_cons_succ, i64_w, i32_w]
    rfl
  refine one_ (i := 8) (N := some 28) #[true, true, true, true, true, true, true, true, true, true, true, false, false, false, false, false, false, false, false, false, false, false, false, false, false] rfl rfl (by kernel_rfl) (by decide) (fun K hK => ?_)
  refine goes_ Try.func28 (by kernel_rfl) rfl #[.pointer (some ⟨p, 0, none⟩)] (by rfl) rfl rfl (by (try simp only [List.map_toArray, List.map_cons, List.map_nil]); first | done | rfl) ?_
  with_reducible refine (width_calls _ _ wd _ pb _ HP.out).mono ?_
  rintro e' w4 ⟨rfl, rfl⟩
  refine ⟨_, rfl, ?_⟩
  refine hK.out _ _ ⟨(blk_cell BK.out 0), (blk_cell BK.out 1)⟩ (fun hHeld => ?_)
  clear hK K
  refine norm_ (a' := ?_) ?_ ?_
  rotate_left
  · show Act.put _ (some 28) _ = _
    simp only [Act.put, List.setIfInBounds_toArray, List.set_cons_zero, List.set_cons_succ, i64_w, i32_w]
    rfl
  refine one_ (i := 11) (N := some 31) #[true, true, true, true, true, true, true, true, true, true, true, true, false, false, false, false, false, false, false, false, false, false, false, false, false] rfl rfl (by kernel_rfl) (by decide) (fun K hK => ?_)
  refine goes_ Try.func27 (by kernel_rfl) rfl #[v, .agg #[.int .i64 sz, .int .i64 hp], .int .i64 wd, .int .i64 e, .int .i64 m] (by rfl) rfl rfl (by (try simp only [List.map_toArray, List.map_cons, List.map_nil]); first | done | rfl) ?_
  with_reducible refine (rtop_of _ l v sz hp wd e m HL.out hlen).mono ?_
  rintro e' w5 ⟨v2, rfl, hr2, hb⟩
  refine ⟨_, rfl, ?_⟩
  have HP := Lib.hid (HP.out.below hb)
  have HL := Lib.hid (HL.out.below hb)
  have HB := Lib.hid (HB.out.trans ((show Below _ _ _ from hb).mono HB.out.size))
  have BK := Lib.hid (blk_below BK.out hb (blk_lt BK.out))
  have HR1 := Lib.hid (HR1.out.below hb)
  rw [HT.out] at hr2
  have HR2 := Lib.hid hr2
  clear hr2 hb
  refine hK.out _ _ ⟨(blk_cell BK.out 0), (blk_cell BK.out 1)⟩ (fun hHeld => ?_)
  clear hK K
  refine norm_ (a' := ?_) ?_ ?_
  rotate_left
  · show Act.put _ (some 31) _ = _
    simp only [Act.put, List.setIfInBounds_toArray, List.set_cons_zero, List.set_cons_succ, i64_w, i32_w]
    rfl
  refine one_ (i := 12) (N := some 32) #[true, true, true, true, true, true, true, true, true, true, true, true, true, false, false, false, false, false, false, false, false, false, false, false, false] rfl rfl (by kernel_rfl) (by decide) (fun K hK => ?_)
  refine goes_ Try.func25 (by kernel_rfl) rfl #[v1, v2] (by rfl) rfl rfl (by (try simp only [List.map_toArray, List.map_cons, List.map_nil]); first | done | rfl) ?_
  with_reducible refine (sameC_calls _ T T _ _ HR1.out HR2.out rfl).mono ?_
  rintro e' w6 ⟨rfl, hb⟩
  refine ⟨_, rfl, ?_⟩
  have HP := Lib.hid (HP.out.below hb)
  have HL := Lib.hid (HL.out.below hb)
  have HB := Lib.hid (HB.out.trans ((show Below _ _ _ from hb).mono HB.out.size))
  have BK := Lib.hid (blk_below BK.out hb (blk_lt BK.out))
  clear hb
  refine hK.out _ _ ⟨(blk_cell BK.out 0), (blk_cell BK.out 1)⟩ (fun hHeld => ?_)
  clear hK K
  refine norm_ (a' := ?_) ?_ ?_
  rotate_left
  · show Act.put _ (some 32) _ = _
    simp only [Act.put, List.setIfInBounds_toArray, List.set_cons_zero, List.set_cons_succ, i64_w, i32_w]
    rfl
  refine pure_ (i := 13) (N := some 33) (v := ?_) (a' := ?_) #[true, true, true, true, true, true, true, true, true, true, true, true, true, true, false, false, false, false, false, false, false, false, false, false, false] rfl rfl (by kernel_rfl) (fun _ _ _ h => h) (Or.inl ⟨by rfl, ?_⟩) ?_ ?_
  rotate_left
  · intro w'
    go_simp
    with_reducible rfl
  rotate_left
  · simp only [Act.put, List.setIfInBounds_toArray, List.set_cons_zero, List.set_cons_succ, i64_w, i32_w]
    rfl
  refine pure_ (i := 15) (N := some 35) (v := ?_) (a' := ?_) #[true, true, true, true, true, true, true, true, true, true, true, true, true, true, false, true, false, false, false, false, false, false, false, false, false] rfl rfl (by kernel_rfl) (fun _ _ _ h => h) (Or.inl ⟨by rfl, ?_⟩) ?_ ?_
  rotate_left
  · intro w'
    go_simp
    with_reducible rfl
  rotate_left
  · simp only [Act.put, List.setIfInBounds_toArray, List.set_cons_zero, List.set_cons_succ, i64_w, i32_w]
    rfl
  refine pure_ (i := 16) (N := some 36) (v := ?_) (a' := ?_) #[true, true, true, true, true, true, true, true, true, true, true, true, true, true, false, true, true, false, false, false, false, false, false, false, false] rfl rfl (by kernel_rfl) (fun _ _ _ h => h) (Or.inl ⟨by rfl, ?_⟩) ?_ ?_
  rotate_left
  · intro w'
    go_simp
    with_reducible rfl
  rotate_left
  · simp only [Act.put, List.setIfInBounds_toArray, List.set_cons_zero, List.set_cons_succ, i64_w, i32_w]
    rfl
  refine take_ (i := 14) (N := some 34) (v := ?_) (a' := ?_) #[true, true, true, true, true, true, true, true, true, true, true, true, true, true, true, true, true, false, false, false, false, false, false, false, false] rfl rfl (by kernel_rfl) (fun _ _ _ h => h) (Or.inl ⟨by rfl, ?_⟩) hHeld ?_ ?_
  rotate_left
  · rintro w' ⟨s0, s1⟩
    go_simp
    with_reducible rfl
  rotate_left
  · simp only [Act.put, List.setIfInBounds_toArray, List.set_cons_zero, List.set_cons_succ, i64_w, i32_w]
    rfl
  refine one_ (i := 17) (N := some 37) #[true, true, true, true, true, true, true, true, true, true, true, true, true, true, true, true, true, true, false, false, false, false, false, false, false] rfl rfl (by kernel_rfl) (by decide) (fun K hK => ?_)
  refine goes_ Try.func26 (by kernel_rfl) rfl #[.pointer none, .agg #[.int .i64 sz, .int .i64 hp], .int .i64 e, .int .i64 m] (by rfl) rfl rfl (by (try simp only [List.map_toArray, List.map_cons, List.map_nil]); first | done | rfl) ?_
  with_reducible refine (top_nil _ _ _ _ _).mono ?_
  rintro e' w7 ⟨v3, rfl, hr3, hb⟩
  refine ⟨_, rfl, ?_⟩
  have HP := Lib.hid (HP.out.below hb)
  have HL := Lib.hid (HL.out.below hb)
  have HB := Lib.hid (HB.out.trans ((show Below _ _ _ from hb).mono HB.out.size))
  have BK := Lib.hid (blk_below BK.out hb (blk_lt BK.out))
  clear hb
  obtain ⟨o3, c3, rfl, _⟩ := SliceR.shape hr3
  clear hr3
  refine hK.out _ _ ⟨(blk_cell BK.out 0), (blk_cell BK.out 1)⟩ (fun hHeld => ?_)
  clear hK K
  refine norm_ (a' := ?_) ?_ ?_
  rotate_left
  · show Act.put _ (some 37) _ = _
    simp only [Act.put, List.setIfInBounds_toArray, List.set_cons_zero, List.set_cons_succ, i64_w, i32_w]
    rfl
  refine pure_ (i := 18) (N := some 38) (v := ?_) (a' := ?_) #[true, true, true, true, true, true, true, true, true, true, true, true, true, true, true, true, true, true, true, false, false, false, false, false, false] rfl rfl (by kernel_rfl) (fun _ _ _ h => h) (Or.inl ⟨by rfl, ?_⟩) ?_ ?_
  rotate_left
  · intro w'
    go_simp
    with_reducible rfl
  rotate_left
  · simp only [Act.put, List.setIfInBounds_toArray, List.set_cons_zero, List.set_cons_succ, i64_w, i32_w]
    rfl
  refine pure_ (i := 19) (N := some 39) (v := ?_) (a' := ?_) #[true, true, true, true, true, true, true, true, true, true, true, true, true, true, true, true, true, true, true, true, false, false, false, false, false] rfl rfl (by kernel_rfl) (fun _ _ _ h => h) (Or.inl ⟨by rfl, ?_⟩) ?_ ?_
  rotate_left
  · intro w'
    go_simp
    with_reducible rfl
  rotate_left
  · simp only [Act.put, List.setIfInBounds_toArray, List.set_cons_zero, List.set_cons_succ, i64_w, i32_w]
    rfl
  refine pure_ (i := 20) (N := some 40) (v := ?_) (a' := ?_) #[true, true, true, true, true, true, true, true, true, true, true, true, true, true, true, true, true, true, true, true, true, false, false, false, false] rfl rfl (by kernel_rfl) (fun _ _ _ h => h) (Or.inl ⟨by rfl, ?_⟩) ?_ ?_
  rotate_left
  · intro w'
    go_simp
    with_reducible rfl
  rotate_left
  · simp only [Act.put, List.setIfInBounds_toArray, List.set_cons_zero, List.set_cons_succ, i64_w, i32_w]
    rfl
  refine pure_ (i := 21) (N := some 41) (v := ?_) (a' := ?_) #[true, true, true, true, true, true, true, true, true, true, true, true, true, true, true, true, true, true, true, true, true, true, false, false, false] rfl rfl (by kernel_rfl) (fun _ _ _ h => h) (Or.inl ⟨by rfl, ?_⟩) ?_ ?_
  rotate_left
  · intro w'
    go_simp
    with_reducible rfl
  rotate_left
  · simp only [Act.put, List.setIfInBounds_toArray, List.set_cons_zero, List.set_cons_succ, i64_w, i32_w]
    rfl
  refine one_ (i := 22) (N := some 42) #[true, true, true, true, true, true, true, true, true, true, true, true, true, true, true, true, true, true, true, true, true, true, true, false, false] rfl rfl (by kernel_rfl) (by decide) (fun K hK => ?_)
  refine goes_ Try.func23 (by kernel_rfl) rfl #[] (by rfl) rfl rfl (by (try simp only [List.map_toArray, List.map_cons, List.map_nil]); first | done | rfl) ?_
  with_reducible refine (awake_calls _).mono ?_
  rintro e' w8 ⟨rfl, hb⟩
  refine ⟨_, rfl, ?_⟩
  have HP := Lib.hid (HP.out.below hb)
  have HL := Lib.hid (HL.out.below hb)
  have HB := Lib.hid (HB.out.trans ((show Below _ _ _ from hb).mono HB.out.size))
  have BK := Lib.hid (blk_below BK.out hb (blk_lt BK.out))
  clear hb
  refine hK.out _ _ ⟨(blk_cell BK.out 0), (blk_cell BK.out 1)⟩ (fun hHeld => ?_)
  clear hK K
  refine norm_ (a' := ?_) ?_ ?_
  rotate_left
  · show Act.put _ (some 42) _ = _
    simp only [Act.put, List.setIfInBounds_toArray, List.set_cons_zero, List.set_cons_succ, i64_w, i32_w]
    rfl
  refine pure_ (i := 23) (N := some 43) (v := ?_) (a' := ?_) #[true, true, true, true, true, true, true, true, true, true, true, true, true, true, true, true, true, true, true, true, true, true, true, true, false] rfl rfl (by kernel_rfl) (fun _ _ _ h => h) (Or.inl ⟨by rfl, ?_⟩) ?_ ?_
  rotate_left
  · intro w'
    go_simp
    with_reducible rfl
  rotate_left
  · simp only [Act.put, List.setIfInBounds_toArray, List.set_cons_zero, List.set_cons_succ, i64_w, i32_w]
    rfl
  refine pure_ (i := 24) (N := some 10) (v := ?_) (a' := ?_) #[true, true, true, true, true, true, true, true, true, true, true, true, true, true, true, true, true, true, true, true, true, true, true, true, true] rfl rfl (by kernel_rfl) (fun _ _ _ h => h) (Or.inl ⟨by rfl, ?_⟩) ?_ ?_
  rotate_left
  · intro w'
    go_simp
    with_reducible rfl
  rotate_left
  · simp only [Act.put, List.setIfInBounds_toArray, List.set_cons_zero, List.set_cons_succ, i64_w, i32_w]
    rfl
  refine done_ (by kernel_rfl) ?_
  go_wp2
  go_ret
  exact ⟨rfl, HB.out⟩
end Go.Proofs.Ytmddlbgdmdepdaa
