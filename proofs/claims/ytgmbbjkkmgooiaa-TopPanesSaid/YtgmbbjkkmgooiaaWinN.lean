/- WindowCounts: the law's function returns true, by a walk. No condition. -/
import Derived.Test.YtgmbbjkkmgooiaaWinM
set_option linter.unusedVariables false
set_option linter.unusedSimpArgs false
namespace Go.Proofs.Ytgmbbjkkmgooiaa
open Go.Maps Go.MapKept Go.RowKit Go.ChangeMaps CK Go.Proofs.YtgmbbjkkmgooiaaW.PrintLast

theorem ints_cell {w : World} {l : List Int} {v : Value} (h : IntsAt w l v) {k : Nat} (hk : k < l.length) : ∃ b o cap, v = .slice (some ⟨b, o, none⟩) l.length cap ∧ b < w.heap.size ∧ w.cell? ⟨b, o + k, none⟩ = some (.int .i64 l[k]) := by
  rcases h with ⟨rfl, _⟩ | ⟨b, o, cap, rfl, _, _, _, h3, h4⟩
  · simp at hk
  · obtain ⟨ce, _, rfl, h⟩ := h4 k hk
    exact ⟨b, o, cap, rfl, h3, by simpa using h 0 (by omega)⟩
theorem adds_cell {w : World} {l : List Add} {v : Value} (h : AddsAt w l v) {k : Nat} (hk : k < l.length) : ∃ b o cap, v = .slice (some ⟨b, o, none⟩) l.length cap ∧ b < w.heap.size ∧ l[k].ok ∧ w.cell? ⟨b, o + k * 3, none⟩ = some (.string l[k].key) ∧ w.cell? ⟨b, o + k * 3 + 1, none⟩ = some (.int .i64 l[k].at_) ∧ w.cell? ⟨b, o + k * 3 + 2, none⟩ = some (.int .i64 l[k].n) := by
  rcases h with ⟨rfl, _⟩ | ⟨b, o, cap, rfl, _, _, _, h3, h4⟩
  · simp at hk
  · obtain ⟨h5, h6, h7, h8⟩ := AddsAt.cells h4 k hk
    exact ⟨b, o, cap, rfl, h3, h5, h6, h7, h8⟩
theorem take_mem_le {l : List Add} {k : Nat} {B : Int} (h : ∀ i (h : i < l.length), i < k → l[i].at_ ≤ B) : ∀ a ∈ l.take k, a.at_ ≤ B := by
  intro a ha
  obtain ⟨i, hi, rfl⟩ := List.mem_iff_getElem.1 ha
  simp only [List.length_take] at hi
  rw [List.getElem_take]
  exact h i (by omega) (by omega)

set_option maxHeartbeats 2000000 in
theorem law_counts (n : Int) (l : List Add) (v : Value) (s : Spec) (key : ByteArray) (w : World) (h0 : (Lit.int .i64 n).wf = true) (hl : AddsAt w l v) (hs : s.ok) (hk : key.size ≤ 140737488351232) :
    Calls Try.prog 7 #[.int .i64 n, v, .agg s.cs.toArray, .string key] w (BoolPost w true) := by
  obtain ⟨sz, hp⟩ := s
  show Calls Try.prog _ #[_, _, .agg #[.int .i64 sz, .int .i64 hp], _] _ _
  clear h0 hs
  have BK : Hid ((w.alloc (.cells #[.int .i64 sz, .int .i64 hp] 23)).heap[w.heap.size]? = some (.cells #[.int .i64 sz, .int .i64 hp] 23 (0, 0))) := blk_new w _
  have HB : Hid (Below w.heap.size w (w.alloc (.cells #[.int .i64 sz, .int .i64 hp] 23))) := (Below.refl _ w).alloc (Nat.le_refl _) _
  have HL := Lib.hid (hl.below ((Below.refl _ w).alloc (Nat.le_refl _) (.cells #[.int .i64 sz, .int .i64 hp] 23)))
  clear hl
  cases hlong : longB l
  case true =>
    have HLo := Lib.hid hlong
    clear hlong
    go_enter Try.func7, Try.ntmps7
    go_wp2_with fail
    refine (long_calls _ l _ HL.out).mono ?_
    rintro e' w1 ⟨rfl, hb⟩
    rw [HLo.out]
    have HL := Lib.hid (HL.out.below hb)
    have HB := Lib.hid (HB.out.trans ((show Below _ _ _ from hb).mono HB.out.size))
    have BK := Lib.hid (blk_below BK.out hb (blk_lt BK.out))
    clear hb
    go_wp2_with fail
    refine (awake_calls _).mono ?_
    rintro e' w9 ⟨rfl, hb⟩
    have HB := Lib.hid (HB.out.trans ((show Below _ _ _ from hb).mono HB.out.size))
    have BK := Lib.hid (blk_below BK.out hb (blk_lt BK.out))
    clear hb
    go_wp2
    go_ret
    exact ⟨rfl, HB.out⟩
  have hlen := longB_false hlong
  have HLo := Lib.hid hlong
  clear hlong
  by_cases hks : 60 < key.size
  · skip
    go_enter Try.func7, Try.ntmps7
    go_wp2_with fail
    refine (long_calls _ l _ HL.out).mono ?_
    rintro e' w1 ⟨rfl, hb⟩
    rw [HLo.out]
    have HL := Lib.hid (HL.out.below hb)
    have HB := Lib.hid (HB.out.trans ((show Below _ _ _ from hb).mono HB.out.size))
    have BK := Lib.hid (blk_below BK.out hb (blk_lt BK.out))
    clear hb
    go_wp2_with fail
    refine (awake_calls _).mono ?_
    rintro e' w9 ⟨rfl, hb⟩
    have HB := Lib.hid (HB.out.trans ((show Below _ _ _ from hb).mono HB.out.size))
    have BK := Lib.hid (blk_below BK.out hb (blk_lt BK.out))
    clear hb
    go_wp2
    go_ret
    exact ⟨rfl, HB.out⟩
  cases hm1 : mayB sz hp 1
  · have HM1 := Lib.hid hm1
    clear hm1
    go_enter Try.func7, Try.ntmps7
    go_wp2_with fail
    refine (long_calls _ l _ HL.out).mono ?_
    rintro e' w1 ⟨rfl, hb⟩
    rw [HLo.out]
    have HL := Lib.hid (HL.out.below hb)
    have HB := Lib.hid (HB.out.trans ((show Below _ _ _ from hb).mono HB.out.size))
    have BK := Lib.hid (blk_below BK.out hb (blk_lt BK.out))
    clear hb
    have c0 : w1.cell? ⟨w.heap.size, 0, none⟩ = some (.int .i64 sz) := blk_cell BK.out 0
    have c1 : w1.cell? ⟨w.heap.size, 1, none⟩ = some (.int .i64 hp) := blk_cell BK.out 1
    go_wp2_with fail
    refine (rmay_calls _ _ _ _).mono ?_
    rintro e' w2 ⟨rfl, hb⟩
    rw [HM1.out]
    have HL := Lib.hid (HL.out.below hb)
    have HB := Lib.hid (HB.out.trans ((show Below _ _ _ from hb).mono HB.out.size))
    have BK := Lib.hid (blk_below BK.out hb (blk_lt BK.out))
    clear hb
    clear c0 c1
    have c0 : w2.cell? ⟨w.heap.size, 0, none⟩ = some (.int .i64 sz) := blk_cell BK.out 0
    have c1 : w2.cell? ⟨w.heap.size, 1, none⟩ = some (.int .i64 hp) := blk_cell BK.out 1
    go_wp2_with fail
    refine (awake_calls _).mono ?_
    rintro e' w9 ⟨rfl, hb⟩
    have HB := Lib.hid (HB.out.trans ((show Below _ _ _ from hb).mono HB.out.size))
    have BK := Lib.hid (blk_below BK.out hb (blk_lt BK.out))
    clear hb
    go_wp2
    go_ret
    exact ⟨rfl, HB.out⟩
  obtain ⟨_, s1, s2, _, g1, g2, _, _⟩ := mayB_facts hm1
  have HM1 := Lib.hid hm1
  clear hm1
  by_cases hsz : 400 < sz
  · skip
    go_enter Try.func7, Try.ntmps7
    go_wp2_with fail
    refine (long_calls _ l _ HL.out).mono ?_
    rintro e' w1 ⟨rfl, hb⟩
    rw [HLo.out]
    have HL := Lib.hid (HL.out.below hb)
    have HB := Lib.hid (HB.out.trans ((show Below _ _ _ from hb).mono HB.out.size))
    have BK := Lib.hid (blk_below BK.out hb (blk_lt BK.out))
    clear hb
    have c0 : w1.cell? ⟨w.heap.size, 0, none⟩ = some (.int .i64 sz) := blk_cell BK.out 0
    have c1 : w1.cell? ⟨w.heap.size, 1, none⟩ = some (.int .i64 hp) := blk_cell BK.out 1
    go_wp2_with fail
    refine (rmay_calls _ _ _ _).mono ?_
    rintro e' w2 ⟨rfl, hb⟩
    rw [HM1.out]
    have HL := Lib.hid (HL.out.below hb)
    have HB := Lib.hid (HB.out.trans ((show Below _ _ _ from hb).mono HB.out.size))
    have BK := Lib.hid (blk_below BK.out hb (blk_lt BK.out))
    clear hb
    clear c0 c1
    have c0 : w2.cell? ⟨w.heap.size, 0, none⟩ = some (.int .i64 sz) := blk_cell BK.out 0
    have c1 : w2.cell? ⟨w.heap.size, 1, none⟩ = some (.int .i64 hp) := blk_cell BK.out 1
    go_wp2_with fail
    refine (awake_calls _).mono ?_
    rintro e' w9 ⟨rfl, hb⟩
    have HB := Lib.hid (HB.out.trans ((show Below _ _ _ from hb).mono HB.out.size))
    have BK := Lib.hid (blk_below BK.out hb (blk_lt BK.out))
    clear hb
    go_wp2
    go_ret
    exact ⟨rfl, HB.out⟩
  by_cases hhp : 400 < hp
  · skip
    go_enter Try.func7, Try.ntmps7
    go_wp2_with fail
    refine (long_calls _ l _ HL.out).mono ?_
    rintro e' w1 ⟨rfl, hb⟩
    rw [HLo.out]
    have HL := Lib.hid (HL.out.below hb)
    have HB := Lib.hid (HB.out.trans ((show Below _ _ _ from hb).mono HB.out.size))
    have BK := Lib.hid (blk_below BK.out hb (blk_lt BK.out))
    clear hb
    have c0 : w1.cell? ⟨w.heap.size, 0, none⟩ = some (.int .i64 sz) := blk_cell BK.out 0
    have c1 : w1.cell? ⟨w.heap.size, 1, none⟩ = some (.int .i64 hp) := blk_cell BK.out 1
    go_wp2_with fail
    refine (rmay_calls _ _ _ _).mono ?_
    rintro e' w2 ⟨rfl, hb⟩
    rw [HM1.out]
    have HL := Lib.hid (HL.out.below hb)
    have HB := Lib.hid (HB.out.trans ((show Below _ _ _ from hb).mono HB.out.size))
    have BK := Lib.hid (blk_below BK.out hb (blk_lt BK.out))
    clear hb
    clear c0 c1
    have c0 : w2.cell? ⟨w.heap.size, 0, none⟩ = some (.int .i64 sz) := blk_cell BK.out 0
    have c1 : w2.cell? ⟨w.heap.size, 1, none⟩ = some (.int .i64 hp) := blk_cell BK.out 1
    go_wp2_with fail
    refine (awake_calls _).mono ?_
    rintro e' w9 ⟨rfl, hb⟩
    have HB := Lib.hid (HB.out.trans ((show Below _ _ _ from hb).mono HB.out.size))
    have BK := Lib.hid (blk_below BK.out hb (blk_lt BK.out))
    clear hb
    go_wp2
    go_ret
    exact ⟨rfl, HB.out⟩
  go_enter Try.func7, Try.ntmps7
  go_wp2_with fail
  refine (long_calls _ l _ HL.out).mono ?_
  rintro e' w1 ⟨rfl, hb⟩
  rw [HLo.out]
  have HL := Lib.hid (HL.out.below hb)
  have HB := Lib.hid (HB.out.trans ((show Below _ _ _ from hb).mono HB.out.size))
  have BK := Lib.hid (blk_below BK.out hb (blk_lt BK.out))
  clear hb
  have c0 : w1.cell? ⟨w.heap.size, 0, none⟩ = some (.int .i64 sz) := blk_cell BK.out 0
  have c1 : w1.cell? ⟨w.heap.size, 1, none⟩ = some (.int .i64 hp) := blk_cell BK.out 1
  go_wp2_with fail
  refine (rmay_calls _ _ _ _).mono ?_
  rintro e' w2 ⟨rfl, hb⟩
  rw [HM1.out]
  have HL := Lib.hid (HL.out.below hb)
  have HB := Lib.hid (HB.out.trans ((show Below _ _ _ from hb).mono HB.out.size))
  have BK := Lib.hid (blk_below BK.out hb (blk_lt BK.out))
  clear hb
  clear c0 c1
  have c0 : w2.cell? ⟨w.heap.size, 0, none⟩ = some (.int .i64 sz) := blk_cell BK.out 0
  have c1 : w2.cell? ⟨w.heap.size, 1, none⟩ = some (.int .i64 hp) := blk_cell BK.out 1
  go_wp2_with fail
  clear c0 c1
  refine (fill_calls _ n l _ HL.out hlen).mono ?_
  rintro e' w3 ⟨p, pb, rfl, hp1, _, _, hb⟩
  have HP := Lib.hid hp1
  have HL := Lib.hid (HL.out.below hb)
  clear hp1
  have HB := Lib.hid (HB.out.trans ((show Below _ _ _ from hb).mono HB.out.size))
  have BK := Lib.hid (blk_below BK.out hb (blk_lt BK.out))
  clear hb
  obtain ⟨wd, hwd⟩ : ∃ wd, wd = min (max n 1) 1099511627776 := ⟨_, rfl⟩
  rw [← hwd] at HP
  clear hwd
  go_wp2_with fail
  have HPd : Hid (PanesAt w3.drew p wd (cntOf l) pb (sumsOf wd l)) := HP.out.below (Below.refl _ _).drew
  have HLd : Hid (AddsAt w3.drew l v) := HL.out.below (Below.refl _ _).drew
  have HB := Lib.hid HB.out.drew
  have BKd : Hid (w3.drew.heap[w.heap.size]? = some (.cells #[.int .i64 sz, .int .i64 hp] 23 (0, 0))) := BK.out
  have HP := HPd
  have HL := HLd
  have BK := BKd
  obtain ⟨my, hmy⟩ : ∃ my, my = mayB sz hp wd := ⟨_, rfl⟩
  have HMY := Lib.hid hmy
  clear hmy
  refine start_ (n := 5) (S := fun w' => w'.cell? ⟨w.heap.size, 0, none⟩ = some (.int .i64 sz) ∧ w'.cell? ⟨w.heap.size, 1, none⟩ = some (.int .i64 hp)) (ds := []) #[false, false, false, false, false] (by kernel_rfl) rfl rfl ⟨(blk_cell BK.out 0), (blk_cell BK.out 1)⟩ (fun hHeld => ?_)
  refine pure_ (i := 1) (N := some 47) (v := ?_) (a' := ?_) #[false, true, false, false, false] rfl rfl (by kernel_rfl) (fun _ _ _ h => h) (Or.inl ⟨by rfl, ?_⟩) ?_ ?_
  rotate_left
  · intro w'
    go_simp
    with_reducible rfl
  rotate_left
  · simp only [Act.put, List.setIfInBounds_toArray, List.set_cons_zero, List.set_cons_succ, i64_w, i32_w]
    rfl
  refine take_ (i := 0) (N := some 46) (v := ?_) (a' := ?_) #[true, true, false, false, false] rfl rfl (by kernel_rfl) (fun _ _ _ h => h) (Or.inl ⟨by rfl, ?_⟩) hHeld ?_ ?_
  rotate_left
  · rintro w' ⟨s0, s1⟩
    go_simp
    with_reducible rfl
  rotate_left
  · simp only [Act.put, List.setIfInBounds_toArray, List.set_cons_zero, List.set_cons_succ, i64_w, i32_w]
    rfl
  refine one_ (i := 2) (N := some 48) #[true, true, true, false, false] rfl rfl (by kernel_rfl) (by decide) (fun K hK => ?_)
  refine goes_ Try.func23 (by kernel_rfl) rfl #[.pointer (some ⟨p, 0, none⟩)] (by rfl) rfl rfl (by (try simp only [List.map_toArray, List.map_cons, List.map_nil]); first | done | rfl) ?_
  with_reducible refine (width_calls _ _ wd _ pb _ HP.out).mono ?_
  rintro e' w4 ⟨rfl, rfl⟩
  refine ⟨_, rfl, ?_⟩
  refine hK.out _ _ ⟨(blk_cell BK.out 0), (blk_cell BK.out 1)⟩ (fun hHeld => ?_)
  clear hK K
  refine norm_ (a' := ?_) ?_ ?_
  rotate_left
  · show Act.put _ (some 48) _ = _
    simp only [Act.put, List.setIfInBounds_toArray, List.set_cons_zero, List.set_cons_succ, i64_w, i32_w]
    rfl
  refine one_ (i := 3) (N := some 49) #[true, true, true, true, false] rfl rfl (by kernel_rfl) (by decide) (fun K hK => ?_)
  refine goes_ Try.func15 (by kernel_rfl) rfl #[.agg #[.int .i64 sz, .int .i64 hp], .int .i64 wd] (by rfl) rfl rfl (by (try simp only [List.map_toArray, List.map_cons, List.map_nil]); first | done | rfl) ?_
  with_reducible refine (may_calls _ _ _ _).mono ?_
  rintro e' w5 ⟨rfl, hb⟩
  refine ⟨_, rfl, ?_⟩
  rw [← HMY.out]
  have HP := Lib.hid (HP.out.below hb)
  have HL := Lib.hid (HL.out.below hb)
  have HB := Lib.hid (HB.out.trans ((show Below _ _ _ from hb).mono HB.out.size))
  have BK := Lib.hid (blk_below BK.out hb (blk_lt BK.out))
  clear hb
  refine hK.out _ _ ⟨(blk_cell BK.out 0), (blk_cell BK.out 1)⟩ (fun hHeld => ?_)
  clear hK K
  refine norm_ (a' := ?_) ?_ ?_
  rotate_left
  · show Act.put _ (some 49) _ = _
    simp only [Act.put, List.setIfInBounds_toArray, List.set_cons_zero, List.set_cons_succ, i64_w, i32_w]
    rfl
  refine pure_ (i := 4) (N := some 50) (v := ?_) (a' := ?_) #[true, true, true, true, true] rfl rfl (by kernel_rfl) (fun _ _ _ h => h) (Or.inl ⟨by rfl, ?_⟩) ?_ ?_
  rotate_left
  · intro w'
    go_simp
    with_reducible rfl
  rotate_left
  · simp only [Act.put, List.setIfInBounds_toArray, List.set_cons_zero, List.set_cons_succ, i64_w, i32_w]
    rfl
  refine done_ (by kernel_rfl) ?_
  cases my
  · go_wp2_with fail
    refine (awake_calls _).mono ?_
    rintro e' w9 ⟨rfl, hb⟩
    have HB := Lib.hid (HB.out.trans ((show Below _ _ _ from hb).mono HB.out.size))
    have BK := Lib.hid (blk_below BK.out hb (blk_lt BK.out))
    clear hb
    go_wp2
    go_ret
    exact ⟨rfl, HB.out⟩
  have HM : Hid (mayB sz hp wd = true) := HMY.out.symm
  obtain ⟨so, scap, rfl, hmx⟩ := SliceR.shape HL.out
  clear HMY HPd HLd BKd
  go_wp2
  go_loopg [10, 11, 54] l.length (fun m mo wa i wr => ∃ k : Nat, k + m = l.length ∧ i = .int .i64 k ∧ mo = .int .i64 (mostS (l.take k) key) ∧ wa = .int .i64 (wantS (l.take k) key (cntE sz hp)) ∧ Hid (Below w.heap.size w wr) ∧ Hid (wr.heap[w.heap.size]? = some (.cells #[.int .i64 sz, .int .i64 hp] 23 (0, 0))) ∧ Hid (PanesAt wr p wd (cntOf l) pb (sumsOf wd l)) ∧ Hid (AddsAt wr l (.slice so l.length scap)) ∧ Hid (∀ i (h : i < l.length), i < k → l[i].at_ ≤ 4000))
  case atStart => exact ⟨0, by omega, rfl, by simp [mostS], by simp [wantS], HB, BK, HP, HL, fun i hi h => by omega⟩
  case round =>
    clear HB BK HP HL
    obtain ⟨k, hkm, rfl, rfl, rfl, HB, BK, HP, HL, HA⟩ := hrel
    by_cases hkn : k < l.length
    · obtain ⟨b, off, cap, heq, hblt, hok, e0, e1, e2⟩ := adds_cell HL.out hkn
      cases heq
      obtain ⟨a, ha⟩ : ∃ a, a = l[k] := ⟨_, rfl⟩
      rw [← ha] at e0 e1 e2 hok
      have HTK : Hid (l.take (k + 1) = l.take k ++ [a]) := by rw [ha]; exact List.take_succ_eq_append_getElem hkn
      have HA' : Hid (a.at_ ≤ 4000 → ∀ i (h : i < l.length), i < k + 1 → l[i].at_ ≤ 4000) := fun h1 i hi hik => by
        rcases Nat.lt_or_ge i k with h | h
        · exact HA.out i hi h
        · obtain rfl : i = k := by omega
          rw [← ha]; exact h1
      have HBA : Hid ((wr.alloc (.cells #[.string a.key, .int .i64 a.at_, .int .i64 a.n] 42)).heap[wr.heap.size]? = some (.cells #[.string a.key, .int .i64 a.at_, .int .i64 a.n] 42 (0, 0))) := blk_new wr _
      have HBr : Hid (Below wr.heap.size wr (wr.alloc (.cells #[.string a.key, .int .i64 a.at_, .int .i64 a.n] 42))) := (Below.refl _ wr).alloc (Nat.le_refl _) _
      have mb := mostS_bd (l.take k) key 4000 (by omega) (take_mem_le HA.out)
      have wb := wantS_bd (l.take k) key (cntE sz hp) 400 (fun x _ hr => by
        simp only [rightB, Bool.and_eq_true, decide_eq_true_eq] at hr
        have := cntE_bd (x := x.at_) g1 (show 0 ≤ sz by omega) (by omega)
        omega) (by omega)
      have tl : ((l.take k).length : Int) ≤ 60 := by have := List.length_take_le k l; omega
      obtain ⟨MO, hMO⟩ : ∃ MO, MO = mostS (l.take k) key := ⟨_, rfl⟩
      obtain ⟨WA, hWA⟩ : ∃ WA, WA = wantS (l.take k) key (cntE sz hp) := ⟨_, rfl⟩
      rw [← hMO, ← hWA]
      rw [← hMO] at mb
      rw [← hWA] at wb
      have HMO := Lib.hid hMO
      have HWA := Lib.hid hWA
      obtain ⟨mb1, mb2, _⟩ := mb
      obtain ⟨wb1, wb2⟩ := wb
      clear ha hok hMO hWA hHeld
      by_cases hat : 4000 < a.at_
      · go_wp2_with fail
        have HB := Lib.hid (HB.out.trans (HBr.out.mono HB.out.size))
        have BK := Lib.hid (blk_below BK.out HBr.out (blk_lt BK.out))
        clear e0 e1 e2
        refine (awake_calls _).mono ?_
        rintro e' w9 ⟨rfl, hb⟩
        have HB := Lib.hid (HB.out.trans ((show Below _ _ _ from hb).mono HB.out.size))
        have BK := Lib.hid (blk_below BK.out hb (blk_lt BK.out))
        clear hb
        go_wp2
        go_ret
        exact ⟨rfl, HB.out⟩
      · go_wp2_with fail
        clear e0 e1 e2
        refine (right_calls _ a).mono ?_
        rintro e' w6 ⟨rfl, hb⟩
        have hbr := HBr.out.trans ((show Below _ _ _ from hb).mono HBr.out.size)
        have HBA := Lib.hid (blk_below HBA.out hb (blk_lt HBA.out))
        have HBr := Lib.hid hbr
        have HP := Lib.hid (HP.out.below hbr)
        have HL := Lib.hid (HL.out.below hbr)
        have HB := Lib.hid (HB.out.trans (hbr.mono HB.out.size))
        have BK := Lib.hid (blk_below BK.out hbr (blk_lt BK.out))
        clear hb hbr
        have k0 : w6.cell? ⟨wr.heap.size, 0, none⟩ = some (.string a.key) := blk_cell HBA.out 0
        cases hr : rightB a
        · have HR := Lib.hid hr
          clear hr
          go_wp2
          go_roundg (l.length - (k + 1))
          case measure => omega
          case rel =>
            refine ⟨k + 1, by omega, by go_num, ?_, ?_, HB, BK, HP, HL, HA'.out (by omega)⟩
            · rw [HTK.out, mostS_snoc, HR.out, HMO.out]; rfl
            · rw [HTK.out, wantS_snoc, HR.out, HWA.out]; simp
        · have HR := Lib.hid hr
          have hr' := hr
          simp only [rightB, Bool.and_eq_true, decide_eq_true_eq] at hr'
          obtain ⟨⟨⟨⟨⟨_, _⟩, r1⟩, r2⟩, r3⟩, r4⟩ := hr'
          clear hr
          by_cases hkey : a.key = key
          · have hkb : (a.key.toList == key.toList) = true := by rw [hkey]; simp
            have HKE := Lib.hid hkey
            clear hkey
            have HPd : Hid (PanesAt w6.drew p wd (cntOf l) pb (sumsOf wd l)) := HP.out.below (Below.refl _ _).drew
            have HLd : Hid (AddsAt w6.drew l (.slice (some ⟨b, off, none⟩) l.length scap)) := HL.out.below (Below.refl _ _).drew
            have HBd : Hid (Below w.heap.size w w6.drew) := HB.out.drew
            have BKd : Hid (w6.drew.heap[w.heap.size]? = some (.cells #[.int .i64 sz, .int .i64 hp] 23 (0, 0))) := BK.out
            have BAd : Hid (w6.drew.heap[wr.heap.size]? = some (.cells #[.string a.key, .int .i64 a.at_, .int .i64 a.n] 42 (0, 0))) := HBA.out
            go_wp2_with fail
            clear HB BK HP HL HBA HBr
            have HP := HPd
            have HL := HLd
            have HB := HBd
            have BK := BKd
            have BA := BAd
            have hcb := cntE_bd (sz := sz) (x := a.at_) g1 (by omega) r1
            refine start_ (n := 11) (S := fun w' => w'.cell? ⟨w.heap.size, 0, none⟩ = some (.int .i64 sz) ∧ w'.cell? ⟨w.heap.size, 1, none⟩ = some (.int .i64 hp) ∧ w'.cell? ⟨wr.heap.size, 0, none⟩ = some (.string a.key) ∧ w'.cell? ⟨wr.heap.size, 1, none⟩ = some (.int .i64 a.at_) ∧ w'.cell? ⟨wr.heap.size, 2, none⟩ = some (.int .i64 a.n)) (ds := []) #[false, false, false, false, false, false, false, false, false, false, false] (by kernel_rfl) rfl rfl ⟨(blk_cell BK.out 0), (blk_cell BK.out 1), (blk_cell BA.out 0), (blk_cell BA.out 1), (blk_cell BA.out 2)⟩ (fun hHeld => ?_)
            refine pure_ (i := 0) (N := some 70) (v := ?_) (a' := ?_) #[true, false, false, false, false, false, false, false, false, false, false] rfl rfl (by kernel_rfl) (fun _ _ _ h => h) (Or.inl ⟨by rfl, ?_⟩) ?_ ?_
            rotate_left
            · intro w'
              go_simp
              with_reducible rfl
            rotate_left
            · simp only [Act.put, List.setIfInBounds_toArray, List.set_cons_zero, List.set_cons_succ, i64_w, i32_w]
              rfl
            refine pure_ (i := 1) (N := some 71) (v := ?_) (a' := ?_) #[true, true, false, false, false, false, false, false, false, false, false] rfl rfl (by kernel_rfl) (fun _ _ _ h => h) (Or.inl ⟨by rfl, ?_⟩) ?_ ?_
            rotate_left
            · intro w'
              go_simp
              with_reducible rfl
            rotate_left
            · simp only [Act.put, List.setIfInBounds_toArray, List.set_cons_zero, List.set_cons_succ, i64_w, i32_w]
              rfl
            refine pure_ (i := 4) (N := some 74) (v := ?_) (a' := ?_) #[true, true, false, false, true, false, false, false, false, false, false] rfl rfl (by kernel_rfl) (fun _ _ _ h => h) (Or.inl ⟨by rfl, ?_⟩) ?_ ?_
            rotate_left
            · intro w'
              go_simp
              with_reducible rfl
            rotate_left
            · simp only [Act.put, List.setIfInBounds_toArray, List.set_cons_zero, List.set_cons_succ, i64_w, i32_w]
              rfl
            refine take_ (i := 2) (N := some 72) (v := ?_) (a' := ?_) #[true, true, true, false, true, false, false, false, false, false, false] rfl rfl (by kernel_rfl) (fun _ _ _ h => h) (Or.inl ⟨by rfl, ?_⟩) hHeld ?_ ?_
            rotate_left
            · rintro w' ⟨s0, s1, s2, s3, s4⟩
              go_simp
              with_reducible rfl
            rotate_left
            · simp only [Act.put, List.setIfInBounds_toArray, List.set_cons_zero, List.set_cons_succ, i64_w, i32_w]
              rfl
            refine take_ (i := 3) (N := some 73) (v := ?_) (a' := ?_) #[true, true, true, true, true, false, false, false, false, false, false] rfl rfl (by kernel_rfl) (fun _ _ _ h => h) (Or.inl ⟨by rfl, ?_⟩) hHeld ?_ ?_
            rotate_left
            · rintro w' ⟨s0, s1, s2, s3, s4⟩
              go_simp
              with_reducible rfl
            rotate_left
            · simp only [Act.put, List.setIfInBounds_toArray, List.set_cons_zero, List.set_cons_succ, i64_w, i32_w]
              rfl
            refine take_ (i := 5) (N := some 75) (v := ?_) (a' := ?_) #[true, true, true, true, true, true, false, false, false, false, false] rfl rfl (by kernel_rfl) (fun _ _ _ h => h) (Or.inl ⟨by rfl, ?_⟩) hHeld ?_ ?_
            rotate_left
            · rintro w' ⟨s0, s1, s2, s3, s4⟩
              go_simp
              with_reducible rfl
            rotate_left
            · simp only [Act.put, List.setIfInBounds_toArray, List.set_cons_zero, List.set_cons_succ, i64_w, i32_w]
              rfl
            refine one_ (i := 6) (N := some 76) #[true, true, true, true, true, true, true, false, false, false, false] rfl rfl (by kernel_rfl) (by decide) (fun K hK => ?_)
            refine goes_ Try.func10 (by kernel_rfl) rfl #[.agg #[.int .i64 sz, .int .i64 hp], .int .i64 a.at_] (by rfl) rfl rfl (by (try simp only [List.map_toArray, List.map_cons, List.map_nil]); first | done | rfl) ?_
            with_reducible refine (holds_len _ sz hp a.at_ HM1.out r1 r2).mono ?_
            rintro e' w7 ⟨o, hn, hcap, rfl, hc, hb⟩
            refine ⟨_, rfl, ?_⟩
            have HP := Lib.hid (HP.out.below hb)
            have HL := Lib.hid (HL.out.below hb)
            have HB := Lib.hid (HB.out.trans ((show Below _ _ _ from hb).mono HB.out.size))
            have BK := Lib.hid (blk_below BK.out hb (blk_lt BK.out))
            have BA := Lib.hid (blk_below BA.out hb (blk_lt BA.out))
            clear hb
            have HC := Lib.hid hc
            have hb1 : 0 ≤ (hn : Int) ∧ (hn : Int) ≤ 400 := by omega
            clear hc
            have q1 : 0 ≤ a.n * (hn : Int) := Int.mul_nonneg r3 (by omega)
            have q2 : a.n * (hn : Int) ≤ 1048576 * 400 := Int.mul_le_mul r4 (by omega) (by omega) (by omega)
            have q3 : IntKind.i64.wrap (a.n * (hn : Int)) = a.n * hn := IntWalk.i64_in _ (by omega)
            have q4 : wrap64 (a.n * (hn : Int)) = a.n * hn := by unfold wrap64; omega
            have q5 : IntKind.i64.wrap (WA + a.n * (hn : Int)) = WA + a.n * hn := IntWalk.i64_in _ (by omega)
            have q6 : wrap64 (WA + a.n * (hn : Int)) = WA + a.n * hn := by unfold wrap64; omega
            refine hK.out _ _ ⟨(blk_cell BK.out 0), (blk_cell BK.out 1), (blk_cell BA.out 0), (blk_cell BA.out 1), (blk_cell BA.out 2)⟩ (fun hHeld => ?_)
            clear hK K
            refine norm_ (a' := ?_) ?_ ?_
            rotate_left
            · show Act.put _ (some 76) _ = _
              simp only [Act.put, List.setIfInBounds_toArray, List.set_cons_zero, List.set_cons_succ, i64_w, i32_w]
              rfl
            refine pure_ (i := 7) (N := some 77) (v := ?_) (a' := ?_) #[true, true, true, true, true, true, true, true, false, false, false] rfl rfl (by kernel_rfl) (fun _ _ _ h => h) (Or.inl ⟨by rfl, ?_⟩) ?_ ?_
            rotate_left
            · intro w'
              go_simp
              with_reducible rfl
            rotate_left
            · simp only [Act.put, List.setIfInBounds_toArray, List.set_cons_zero, List.set_cons_succ, i64_w, i32_w]
              rfl
            refine pure_ (i := 8) (N := some 78) (v := ?_) (a' := ?_) #[true, true, true, true, true, true, true, true, true, false, false] rfl rfl (by kernel_rfl) (fun _ _ _ h => h) (Or.inl ⟨by rfl, ?_⟩) ?_ ?_
            rotate_left
            · intro w'
              go_simp
              with_reducible rfl
            rotate_left
            · simp only [Act.put, List.setIfInBounds_toArray, List.set_cons_zero, List.set_cons_succ, i64_w, i32_w]
              rfl
            refine pure_ (i := 9) (N := some 79) (v := ?_) (a' := ?_) #[true, true, true, true, true, true, true, true, true, true, false] rfl rfl (by kernel_rfl) (fun _ _ _ h => h) (Or.inl ⟨by rfl, ?_⟩) ?_ ?_
            rotate_left
            · intro w'
              go_simp
              with_reducible rfl
            rotate_left
            · simp only [Act.put, List.setIfInBounds_toArray, List.set_cons_zero, List.set_cons_succ, i64_w, i32_w]
              rfl
            refine pure_ (i := 10) (N := some 11) (v := ?_) (a' := ?_) #[true, true, true, true, true, true, true, true, true, true, true] rfl rfl (by kernel_rfl) (fun _ _ _ h => h) (Or.inl ⟨by rfl, ?_⟩) ?_ ?_
            rotate_left
            · intro w'
              go_simp
              with_reducible rfl
            rotate_left
            · simp only [Act.put, List.setIfInBounds_toArray, List.set_cons_zero, List.set_cons_succ, i64_w, i32_w]
              rfl
            refine done_ (by kernel_rfl) ?_
            have k1 : w7.cell? ⟨wr.heap.size, 1, none⟩ = some (.int .i64 a.at_) := blk_cell BA.out 1
            go_wp2
            all_goals
              go_roundg (l.length - (k + 1))
              case measure => omega
              case rel =>
                have hcond : (rightB a && decide (a.key = key)) = true := by rw [HR.out, HKE.out]; simp
                refine ⟨k + 1, by omega, by go_num, ?_, ?_, HB, BK, HP, HL, HA'.out (by omega)⟩
                · rw [HTK.out, mostS_snoc, if_pos hcond, ← HMO.out]; first | rfl | (congr 1; omega)
                · rw [HTK.out, wantS_snoc, if_pos hcond, HWA.out, HC.out]
          · have hkb : (a.key.toList == key.toList) = false := by rw [beq_eq_false_iff_ne]; exact fun h => hkey (ba_eq.1 h)
            have hcond : (rightB a && decide (a.key = key)) = false := by simp [hkey]
            have HCN := Lib.hid hcond
            clear hkey hcond
            go_wp2
            go_roundg (l.length - (k + 1))
            case measure => omega
            case rel =>
              refine ⟨k + 1, by omega, by go_num, ?_, ?_, HB, BK, HP, HL, HA'.out (by omega)⟩
              · rw [HTK.out, mostS_snoc, HCN.out, HMO.out]; rfl
              · rw [HTK.out, wantS_snoc, HCN.out, HWA.out]; simp
    · obtain rfl : k = l.length := by omega
      have HA2 : Hid (∀ a ∈ l, a.at_ ≤ 4000) := fun a ha => take_mem_le HA.out a (by rw [List.take_length]; exact ha)
      rw [List.take_length]
      clear HA hHeld
      have mb := mostS_bd l key 4000 (by omega) HA2.out
      have wb := wantS_bd l key (cntE sz hp) 400 (fun x _ hr => by
        simp only [rightB, Bool.and_eq_true, decide_eq_true_eq] at hr
        have := cntE_bd (x := x.at_) g1 (show 0 ≤ sz by omega) (by omega)
        omega) (by omega)
      obtain ⟨MO, hMO⟩ : ∃ MO, MO = mostS l key := ⟨_, rfl⟩
      obtain ⟨WA, hWA⟩ : ∃ WA, WA = wantS l key (cntE sz hp) := ⟨_, rfl⟩
      rw [← hMO, ← hWA]
      rw [← hMO] at mb
      rw [← hWA] at wb
      have HWA := Lib.hid hWA
      obtain ⟨mb1, mb2, mb3⟩ := mb
      have HMB := Lib.hid mb3
      clear hMO hWA mb3
      have c0 : wr.cell? ⟨w.heap.size, 0, none⟩ = some (.int .i64 sz) := blk_cell BK.out 0
      have c1 : wr.cell? ⟨w.heap.size, 1, none⟩ = some (.int .i64 hp) := blk_cell BK.out 1
      have hw1 : IntKind.i64.wrap (MO + sz) = MO + sz := IntWalk.i64_in _ (by omega)
      have hw2 : wrap64 (MO + sz) = MO + sz := by unfold wrap64; omega
      go_wp2_with fail
      refine (ends_any _ sz hp 0 (MO + sz)).mono ?_
      rintro e' w7 ⟨el, ev, rfl, hi, he, hb⟩
      have HI := Lib.hid hi
      obtain ⟨q, hq, hq1, hq2, hq3⟩ := ends_zero HM1.out (by omega) he
      have HP := Lib.hid (HP.out.below hb)
      have HB := Lib.hid (HB.out.trans ((show Below _ _ _ from hb).mono HB.out.size))
      have BK := Lib.hid (blk_below BK.out hb (blk_lt BK.out))
      clear hb
      clear c0 c1 hi he
      obtain ⟨eo, ecap, rfl, hmx2⟩ := SliceR.shape HI.out
      have hel : el.length = q := by rw [hq, abvI_len]
      by_cases h4 : el.length = 4096
      · have h4b : ((el.length : Int) == 4096) = true := by simp; omega
        have HQ := Lib.hid hq
        have HQ2 := Lib.hid hq2
        clear hq hq2 hel
        go_wp2_with fail
        refine (awake_calls _).mono ?_
        rintro e' w9 ⟨rfl, hb⟩
        have HB := Lib.hid (HB.out.trans ((show Below _ _ _ from hb).mono HB.out.size))
        have BK := Lib.hid (blk_below BK.out hb (blk_lt BK.out))
        clear hb
        go_wp2
        go_ret
        exact ⟨rfl, HB.out⟩
      have h4b : ((el.length : Int) == 4096) = false := by simp; omega
      have hgw : gotS l sz key el = WA := by
        rw [hq, HWA.out]
        refine got_want l sz hp key q g1 (by omega) fun a ha hr hk' => ?_
        have := HMB.out a ha hr hk'
        have : (a.at_ + sz) / hp ≤ (MO + sz) / hp := Int.ediv_le_ediv (by omega) (by omega)
        omega
      have HGW := Lib.hid hgw
      have HEB : Hid (∀ i (h : i < el.length), endB hp el[i] = true) := fun i h => by
        have h2 := hq2 i (by omega)
        have h3 : el[i] = hp + (i : Int) * hp := by simp only [hq, abvI_get]
        rw [h3]
        have h5 : 0 ≤ (i : Int) * hp := Int.mul_nonneg (by omega) (by omega)
        have h6 : (hp + (i : Int) * hp) % hp = 0 := by rw [Int.add_mul_emod_self_right, Int.emod_self]
        simp [endB, h6]; omega
      have hel4 : el.length ≤ 4096 := by omega
      clear hq hq2 hq3 hgw HA2 HMB HL hel
      go_wp2
      go_loopg [14, 97] el.length (fun m g i wr => ∃ k : Nat, k + m = el.length ∧ i = .int .i64 k ∧ g = .int .i64 (gotS l sz key (el.take k)) ∧ Hid (Below w.heap.size w wr) ∧ Hid (wr.heap[w.heap.size]? = some (.cells #[.int .i64 sz, .int .i64 hp] 23 (0, 0))) ∧ Hid (PanesAt wr p wd (cntOf l) pb (sumsOf wd l)) ∧ Hid (IntsAt wr el (.slice eo el.length ecap)))
      case atStart => exact ⟨0, by omega, rfl, by simp [gotS], HB, BK, HP, HI⟩
      case round =>
        clear HB BK HP HI
        obtain ⟨k, hkm, rfl, rfl, HB, BK, HP, HI⟩ := hrel
        have gb := gotS_bd l sz key (el.take k) hlen
        have tl : ((el.take k).length : Int) ≤ 4096 := by have := List.length_take_le k el; omega
        obtain ⟨GO, hGO⟩ : ∃ GO, GO = gotS l sz key (el.take k) := ⟨_, rfl⟩
        rw [← hGO]
        rw [← hGO] at gb
        have HGO := Lib.hid hGO
        obtain ⟨gb1, gb2⟩ := gb
        clear hGO
        by_cases hkn : k < el.length
        · obtain ⟨b, off, cap, heq, hblt, e0⟩ := ints_cell HI.out hkn
          cases heq
          have HE0 := Lib.hid (HEB.out k hkn)
          have HTK : Hid (el.take (k + 1) = el.take k ++ [el[k]]) := List.take_succ_eq_append_getElem hkn
          obtain ⟨x, hx⟩ : ∃ x, x = el[k] := ⟨_, rfl⟩
          rw [← hx] at e0 HE0 HTK
          clear hx
          have c0 : wr.cell? ⟨w.heap.size, 0, none⟩ = some (.int .i64 sz) := blk_cell BK.out 0
          have c1 : wr.cell? ⟨w.heap.size, 1, none⟩ = some (.int .i64 hp) := blk_cell BK.out 1
          go_wp2_with fail
          refine (at_calls _ sz hp x key p wd _ pb _ HP.out).mono ?_
          rintro e' w8 ⟨rfl, hb⟩
          rw [at_plain, if_pos (by rw [HM.out, HE0.out]; rfl)]
          have ab := atSum_bd l sz x key
          obtain ⟨A, hA⟩ : ∃ A, A = atSum l sz x key := ⟨_, rfl⟩
          rw [← hA]
          rw [← hA] at ab
          have HA := Lib.hid hA
          obtain ⟨ab1, ab2⟩ := ab
          have HP := Lib.hid (HP.out.below hb)
          have HI := Lib.hid (HI.out.below hb)
          have HB := Lib.hid (HB.out.trans ((show Below _ _ _ from hb).mono HB.out.size))
          have BK := Lib.hid (blk_below BK.out hb (blk_lt BK.out))
          clear hb
          clear c0 c1 e0 hA
          go_wp2
          go_roundg (el.length - (k + 1))
          case measure => omega
          case rel =>
            refine ⟨k + 1, by omega, by go_num, ?_, HB, BK, HP, HI⟩
            rw [HTK.out, gotS_snoc, HGO.out, HA.out]
        · obtain rfl : k = el.length := by omega
          have hfin : (GO == WA) = true := by
            have := HGO.out
            rw [List.take_length, HGW.out] at this
            simp [this]
          go_wp2_with fail
          refine (awake_calls _).mono ?_
          rintro e' w9 ⟨rfl, hb⟩
          have HB := Lib.hid (HB.out.trans ((show Below _ _ _ from hb).mono HB.out.size))
          have BK := Lib.hid (blk_below BK.out hb (blk_lt BK.out))
          clear hb
          go_wp2
          go_ret
          exact ⟨rfl, HB.out⟩
end Go.Proofs.Ytgmbbjkkmgooiaa
