/- RisingOrders, RisingFloors: the laws' functions return true, by walks. No condition. -/
import Derived.Test.YtmddlbgdmdepdaaRiS
import Derived.OpenShut
set_option linter.unusedVariables false
set_option linter.unusedSimpArgs false
set_option maxRecDepth 100000
namespace Go.Proofs.Ytmddlbgdmdepdaa
open Go.Maps Go.MapKept Go.RowKit Go.ChangeMaps Go.Shelf CK Go.Proofs.YtmddlbgdmdepdaaW.PrintLast

theorem riseOf_ok2 (l : List Add) (hl : l.length ≤ 1000) (wd sp now : Int) (k : ByteArray) : (riseOf l wd sp now k).ok := by
  have h1 := rangeSum_bd l k (now - now % wd - sp) (now - now % wd)
  have h2 := rangeSum_bd l k (now - now % wd - 2 * sp) (now - now % wd - sp)
  refine ⟨h1.1, ?_, h2.1, ?_⟩
  · show rangeSum l k (now - now % wd - sp) (now - now % wd) ≤ _; omega
  · show rangeSum l k (now - now % wd - 2 * sp) (now - now % wd - sp) ≤ _; omega
/-- WHAT RISES IN PANES IS THE RECOUNT's -/
theorem rises_plain2 (l : List Add) (hl : l.length ≤ 1000) (wd : Int) (hw : 1 ≤ wd) (sp now fl : Int) (hm : mayR wd sp now = true) :
    ofL (sumsOf wd l) wd sp now fl = refR (riseOf l wd sp now) fl [] l [] := by
  simp only [mayR, Bool.and_eq_true, decide_eq_true_eq] at hm
  obtain ⟨⟨⟨⟨s1, s2⟩, s3⟩, n1⟩, n2⟩ := hm
  have z0 : (now - now % wd) % wd = 0 := by rw [Int.sub_emod, Int.emod_emod_of_dvd _ (Int.dvd_refl _), Int.sub_self]; rfl
  have z1 : (now - now % wd - sp) % wd = 0 := by rw [Int.sub_emod, z0, s3]; rfl
  have z2 : (now - now % wd - 2 * sp) % wd = 0 := by rw [Int.sub_emod, z0, Int.mul_emod, s3]; simp
  have hok := fun k => riseOf_ok2 l hl wd sp now k
  obtain ⟨h1, h2⟩ := refR_inv (G := riseOf l wd sp now) (fun _ => rfl) fl l [] [] ⟨by simp, by simp⟩
  have hmem : ∀ c, c ∈ risesOf (sumsOf wd l) (keysIn (sumsOf wd l) ((now - now % wd - sp) / wd) ((now - now % wd) / wd)) ((now - now % wd - 2 * sp) / wd) ((now - now % wd - sp) / wd) ((now - now % wd) / wd) fl ↔ c = riseOf l wd sp now c.key ∧ 1 ≤ c.nw ∧ fl ≤ c.nw ∧ ∃ a ∈ l, a.key = c.key := fun c => by
    have e1 : ∀ k, psum (sumsOf wd l) k ((now - now % wd - sp) / wd) ((now - now % wd) / wd) = (riseOf l wd sp now k).nw := fun k => psum_sums wd hw l k _ _ z1 z0
    have e2 : ∀ k, psum (sumsOf wd l) k ((now - now % wd - 2 * sp) / wd) ((now - now % wd - sp) / wd) = (riseOf l wd sp now k).od := fun k => psum_sums wd hw l k _ _ z2 z1
    have hpos := fun key => psum_pos (sums_pos wd l) key ((now - now % wd - sp) / wd) ((now - now % wd) / wd)
    have er : ∀ k, (⟨k, psum (sumsOf wd l) k ((now - now % wd - sp) / wd) ((now - now % wd) / wd), psum (sumsOf wd l) k ((now - now % wd - 2 * sp) / wd) ((now - now % wd - sp) / wd)⟩ : Rz) = riseOf l wd sp now k := fun k => by rw [e1, e2]; rfl
    unfold risesOf
    rw [List.mem_map]
    constructor
    · rintro ⟨k, hk, rfl⟩
      obtain ⟨hk1, hk2⟩ := List.mem_filter.1 hk
      have h3 := (hpos k).2 hk1
      rw [er]
      refine ⟨rfl, ?_, ?_, ?_⟩
      · rw [e1] at h3; omega
      · rw [e1] at hk2; simpa using hk2
      · rw [e1] at h3; exact rangeSum_has h3
    · rintro ⟨h3, h4, h5, h6⟩
      refine ⟨c.key, List.mem_filter.2 ⟨(hpos _).1 ?_, ?_⟩, ?_⟩
      · rw [e1, ← h3]; omega
      · rw [e1, ← h3]; simpa using h5
      · rw [er]; exact h3.symm
  have hnd : (risesOf (sumsOf wd l) (keysIn (sumsOf wd l) ((now - now % wd - sp) / wd) ((now - now % wd) / wd)) ((now - now % wd - 2 * sp) / wd) ((now - now % wd - sp) / wd) ((now - now % wd) / wd) fl).Nodup := by
    unfold risesOf
    exact List.Pairwise.map _ (fun a b hab h' => hab (congrArg Rz.key h')) ((keysIn_nodup _ _ _).filter _)
  have hokl : ∀ r ∈ risesOf (sumsOf wd l) (keysIn (sumsOf wd l) ((now - now % wd - sp) / wd) ((now - now % wd) / wd)) ((now - now % wd - 2 * sp) / wd) ((now - now % wd - sp) / wd) ((now - now % wd) / wd) fl, r.ok := fun r hr => by rw [((hmem r).1 hr).1]; exact hok _
  have hp : (ofL (sumsOf wd l) wd sp now fl).Perm (refR (riseOf l wd sp now) fl [] l []) := (sortBy_perm _).trans ((List.perm_ext_iff_of_nodup hnd h2).2 fun c => by rw [hmem c, h1 c, List.nil_append])
  refine inOrder_flip cfZ_flip hp (sortZ_inOrder hokl) (refR_inOrder hok fl l [] [] List.Pairwise.nil) fun x hx y hy e => ?_
  have k1 := ((h1 x).1 (hp.mem_iff.1 hx)).1
  have k2 := ((h1 y).1 (hp.mem_iff.1 hy)).1
  rw [k1, k2, cfZ_eq e]
theorem of_any2 (w : World) (l : List Add) (hl : l.length ≤ 1000) (p : Nat) (wd ad : Int) (b : Nat) (sp now fl : Int) (h : PanesAt w p wd ad b (sumsOf wd l)) :
    Calls Try.prog 18 #[.pointer (some ⟨p, 0, none⟩), .int .i64 sp, .int .i64 now, .int .i64 fl] w (RowPost encZ 3 w (risL l wd sp now fl)) := by
  unfold risL
  cases hm : mayR wd sp now
  · exact of_no w p wd ad b _ sp now fl h hm
  · rw [if_pos rfl, ← rises_plain2 l hl wd h.w1 sp now fl hm]
    exact of_calls w p wd ad b _ sp now fl h (by have := sums_len' wd l; omega) hm
/-- what is known of what rises -/
theorem risL_facts (l : List Add) (hl : l.length ≤ 1000) (wd sp now fl : Int) :
    (∀ c, c ∈ risL l wd sp now fl ↔ mayR wd sp now = true ∧ c = riseOf l wd sp now c.key ∧ 1 ≤ c.nw ∧ fl ≤ c.nw ∧ ∃ a ∈ l, a.key = c.key) ∧ (risL l wd sp now fl).Nodup ∧ InOrder cfZ (risL l wd sp now fl) := by
  unfold risL
  cases hm : mayR wd sp now
  · simp [InOrder]
  · rw [if_pos rfl]
    obtain ⟨h1, h2⟩ := refR_inv (G := riseOf l wd sp now) (fun _ => rfl) fl l [] [] ⟨by simp, by simp⟩
    exact ⟨fun c => by rw [h1 c, List.nil_append]; simp, h2, refR_inOrder (fun k => riseOf_ok2 l hl wd sp now k) fl l [] [] List.Pairwise.nil⟩
theorem risL_floor (l : List Add) (hl : l.length ≤ 1000) (wd sp now fl fl2 : Int) (h : fl ≤ fl2) : (risL l wd sp now fl).filter (fun r => decide (fl2 ≤ r.nw)) = risL l wd sp now fl2 := by
  obtain ⟨h1, h2, h3⟩ := risL_facts l hl wd sp now fl
  obtain ⟨k1, k2, k3⟩ := risL_facts l hl wd sp now fl2
  have hp : ((risL l wd sp now fl).filter (fun r => decide (fl2 ≤ r.nw))).Perm (risL l wd sp now fl2) := (List.perm_ext_iff_of_nodup (h2.filter _) k2).2 fun c => by
    rw [List.mem_filter, h1 c, k1 c, decide_eq_true_iff]
    constructor
    · rintro ⟨⟨a1, a2, a3, a4, a5⟩, a6⟩; exact ⟨a1, a2, a3, a6, a5⟩
    · rintro ⟨a1, a2, a3, a4, a5⟩; exact ⟨⟨a1, a2, a3, by omega, a5⟩, a4⟩
  refine inOrder_flip cfZ_flip hp (h3.filter _) k3 fun x hx y hy e => ?_
  have e1 := ((k1 x).1 (hp.mem_iff.1 hx)).2.1
  have e2 := ((k1 y).1 (hp.mem_iff.1 hy)).2.1
  rw [e1, e2, cfZ_eq e]
/-- two that are told one behind the other -/
theorem rises_next {a r : Rz} (h : cfZ a r ≤ 0) (hk : a.key ≠ r.key) (c : Int) (hc : c = cmpI (a.nw * (r.od + 1)) (r.nw * (a.od + 1))) :
    0 ≤ c ∧ (c = 0 → r.nw ≤ a.nw ∧ (a.nw = r.nw → cmpS a.key r.key < 0)) := by
  have f1 := cmpI_ok.flip (r.nw * (a.od + 1)) (a.nw * (r.od + 1))
  rw [← hc] at f1
  unfold cfZ at h
  split at h
  · rename_i h0
    refine ⟨by omega, fun _ => ?_⟩
    split at h
    · rename_i h1
      have h2 := cmpI_zero.1 h1
      refine ⟨by omega, fun _ => ?_⟩
      rcases Int.lt_or_eq_of_le h with h3 | h3
      · exact h3
      · exact (hk (cmpS_eq h3)).elim
    · rename_i h1
      have h2 := cmpI_le.1 h
      refine ⟨h2, fun e => ?_⟩
      exact (h1 (cmpI_zero.2 e.symm)).elim
  · rename_i h0; exact ⟨by omega, fun e => by omega⟩

set_option maxHeartbeats 4000000 in
theorem law_orders (n : Int) (l : List Add) (v : Value) (sp now fl : Int) (w : World) (h0 : (Lit.int .i64 n).wf = true) (hl : AddsAt w l v) (h1 : (Lit.int .i64 sp).wf = true) (h2 : (Lit.int .i64 now).wf = true) (h3 : (Lit.int .i64 fl).wf = true) :
    Calls Try.prog 8 #[.int .i64 n, v, .int .i64 sp, .int .i64 now, .int .i64 fl] w (BoolPost w true) := by
  clear h0 h1 h2 h3
  have HL := Lib.hid hl
  have HB : Hid (Below w.heap.size w w) := Below.refl _ _
  clear hl
  cases hlong : longC l
  case true =>
    have HLo := Lib.hid hlong
    clear hlong
    go_enter Try.func8, Try.ntmps8
    go_wp2_with fail
    refine (long19_calls _ l _ HL.out).mono ?_
    rintro e' w1 ⟨rfl, hb⟩
    rw [HLo.out]
    replace HL := Lib.hid (HL.out.below hb)
    replace HB := Lib.hid (HB.out.trans ((show Below _ _ _ from hb).mono HB.out.size))
    clear hb
    go_wp2_with fail
    refine (awake19_calls _).mono ?_
    rintro e' w2 ⟨rfl, hb⟩
    replace HB := Lib.hid (HB.out.trans ((show Below _ _ _ from hb).mono HB.out.size))
    clear hb
    go_wp2
    go_ret
    exact ⟨rfl, HB.out⟩
  have hlen := longC_false hlong
  have HLo := Lib.hid hlong
  clear hlong
  go_enter Try.func8, Try.ntmps8
  go_wp2_with fail
  refine (long19_calls _ l _ HL.out).mono ?_
  rintro e' w1 ⟨rfl, hb⟩
  rw [HLo.out]
  replace HL := Lib.hid (HL.out.below hb)
  replace HB := Lib.hid (HB.out.trans ((show Below _ _ _ from hb).mono HB.out.size))
  clear hb
  go_wp2_with fail
  refine (fill19_calls _ n l _ HL.out (by omega)).mono ?_
  rintro e' w2 ⟨p, pb, rfl, hp1, _, _, hb⟩
  replace HL := Lib.hid (HL.out.below hb)
  have HP := Lib.hid hp1
  clear hp1
  replace HB := Lib.hid (HB.out.trans ((show Below _ _ _ from hb).mono HB.out.size))
  clear hb
  obtain ⟨wd, hwd⟩ : ∃ wd, wd = min (max n 1) 1099511627776 := ⟨_, rfl⟩
  rw [← hwd] at HP
  clear hwd
  have hw1 := HP.out.w1
  have hw2 := HP.out.w2
  obtain ⟨L, hL⟩ : ∃ L, L = risL l wd sp now fl := ⟨_, rfl⟩
  have HLF := Lib.hid (risL_facts l (by omega) wd sp now fl)
  rw [← hL] at HLF
  have HOK : Hid (∀ r ∈ L, r.ok ∧ 1 ≤ r.nw ∧ fl ≤ r.nw) := fun r hr => by
    obtain ⟨_, a2, a3, a4, _⟩ := (HLF.out.1 r).1 hr
    exact ⟨by rw [a2]; exact riseOf_ok2 l (by omega) wd sp now _, a3, a4⟩
  have HK : Hid (∀ x ∈ L, ∀ y ∈ L, x.key = y.key → x = y) := fun x hx y hy e => by
    rw [((HLF.out.1 x).1 hx).2.1, ((HLF.out.1 y).1 hy).2.1, e]
  have HLL := Lib.hid hL
  clear hL
  go_wp2_with fail
  refine (of_any _ l (by omega) p wd _ pb sp now fl HP.out).mono ?_
  rintro e' w3 ⟨v1, rfl, hr1, hb⟩
  rw [← HLL.out] at hr1
  replace HB := Lib.hid (HB.out.trans ((show Below _ _ _ from hb).mono HB.out.size))
  clear hb
  have HR := Lib.hid hr1
  obtain ⟨so, cap, rfl, hmx⟩ := SliceR.shape hr1
  have hLl : L.length ≤ 9223372036854775807 := by unfold maxLen at *; omega
  clear hr1 hmx HP HL HLo
  go_wp2
  go_loopg [32] L.length (fun m i wr => ∃ k : Nat, k + m = L.length ∧ i = .int .i64 k ∧ Hid (Below w3.heap.size w3 wr))
  case atStart => exact ⟨0, by omega, rfl, Below.refl _ _⟩
  case round =>
    obtain ⟨k, hkm, rfl, HB2⟩ := hrel
    by_cases hkn : k < L.length
    · obtain ⟨b, f, d, q1, hb1, e1⟩ := CK.RowK.cell (HR.out.below HB2.out) hkn
      cases q1
      obtain ⟨rok, r1, r2⟩ := HOK.out L[k] (List.getElem_mem _)
      obtain ⟨⟨rk, rn, ro⟩, hr⟩ : ∃ c : Rz, c = L[k] := ⟨_, rfl⟩
      rw [← hr] at e1 rok r1 r2
      have hr' := Lib.hid hr
      simp only [Rz.ok] at rok r1 r2
      obtain ⟨g0, g1, g2, g3⟩ := rok
      have a0 : wr.cell? ⟨b, f + k * 3, none⟩ = some (.string rk) := (e1 0 (by omega)).trans rfl
      have a1 : wr.cell? ⟨b, f + k * 3 + 1, none⟩ = some (.int .i64 rn) := (e1 1 (by omega)).trans rfl
      have a2 : wr.cell? ⟨b, f + k * 3 + 2, none⟩ = some (.int .i64 ro) := (e1 2 (by omega)).trans rfl
      have d1 : decide (rn < 1) = false := by rw [decide_eq_false_iff_not]; omega
      have d2 : decide (rn < fl) = false := by rw [decide_eq_false_iff_not]; omega
      clear e1 hr
      rcases Nat.eq_zero_or_pos k with rfl | hk0
      · simp only [Nat.zero_mul, Nat.add_zero] at a0 a1 a2
        have z0 : ((0 : Nat) : Int) = 0 := rfl
        rw [z0]
        have z1 : (0 : Int) < (L.length : Int) := by omega
        go_wp2
        go_roundg (L.length - 1)
        case measure => omega
        case rel => exact ⟨1, by omega, by first | rfl | go_num, HB2.out.alloc HB2.out.size _⟩
      · obtain ⟨j, rfl⟩ : ∃ j, k = j + 1 := ⟨k - 1, by omega⟩
        have hjn : j < L.length := by omega
        obtain ⟨b', f', d', q2, _, e2⟩ := CK.RowK.cell (HR.out.below HB2.out) hjn
        cases q2
        obtain ⟨pok, _, _⟩ := HOK.out L[j] (List.getElem_mem _)
        obtain ⟨⟨pk, pn, po⟩, hp⟩ : ∃ c : Rz, c = L[j] := ⟨_, rfl⟩
        have hcf : cfZ ⟨pk, pn, po⟩ ⟨rk, rn, ro⟩ ≤ 0 := by
          rw [hp, hr'.out]
          exact List.pairwise_iff_getElem.1 HLF.out.2.2 j (j + 1) hjn hkn (by omega)
        have hne : pk ≠ rk := fun h => by
          have h2 := HK.out L[j] (List.getElem_mem _) L[j + 1] (List.getElem_mem _) (by rw [← hp, ← hr'.out]; exact h)
          have h3 := (List.getElem_inj HLF.out.2.1).1 h2
          omega
        rw [← hp] at e2 pok
        simp only [Rz.ok] at pok
        obtain ⟨y0, y1, y2, y3⟩ := pok
        have a3 : wr.cell? ⟨b, f + j * 3, none⟩ = some (.string pk) := (e2 0 (by omega)).trans rfl
        have a4 : wr.cell? ⟨b, f + j * 3 + 1, none⟩ = some (.int .i64 pn) := (e2 1 (by omega)).trans rfl
        have a5 : wr.cell? ⟨b, f + j * 3 + 2, none⟩ = some (.int .i64 po) := (e2 2 (by omega)).trans rfl
        clear e2 hp
        obtain ⟨c, hc⟩ : ∃ c, c = cmpR (pn, po + 1) (rn, ro + 1) := ⟨_, rfl⟩
        have hc2 := hc
        rw [cmpR, hld_ok y0 (by omega), hld_ok g0 (by omega)] at hc2
        obtain ⟨n1, n2⟩ := rises_next hcf hne c hc2
        have HC := Lib.hid hc
        have HN2 := Lib.hid n2
        clear hc hc2 hcf n2
        replace hne := Lib.hid hne
        go_wp2_with fail
        refine name_w (fun w' => (w'.drew.heap[wr.heap.size]? = some (.cells #[.string rk, .int .i64 rn, .int .i64 ro] 35 (0, 0)) ∧ w'.drew.heap[wr.heap.size + 1]? = some (.cells #[.string pk, .int .i64 pn, .int .i64 po] 35 (0, 0))) ∧ Below w3.heap.size w3 w'.drew) ⟨⟨blk_old (blk_new wr _) _, blk_new2 wr _ _⟩, ((HB2.out.alloc HB2.out.size _).alloc (by have := HB2.out.size; simp; omega) _).drew⟩ ?_
        clear HB2 a0 a1 a2 a3 a4 a5
        rintro w0 ⟨⟨hB1, hB2⟩, HB2⟩
        replace hB1 := Lib.hid hB1
        replace hB2 := Lib.hid hB2
        replace HB2 := Lib.hid HB2
        refine start_ (n := 6) (S := fun w' => w'.cell? ⟨wr.heap.size, 0, none⟩ = some (.string rk) ∧ w'.cell? ⟨wr.heap.size, 1, none⟩ = some (.int .i64 rn) ∧ w'.cell? ⟨wr.heap.size, 2, none⟩ = some (.int .i64 ro) ∧ w'.cell? ⟨wr.heap.size + 1, 0, none⟩ = some (.string pk) ∧ w'.cell? ⟨wr.heap.size + 1, 1, none⟩ = some (.int .i64 pn) ∧ w'.cell? ⟨wr.heap.size + 1, 2, none⟩ = some (.int .i64 po)) (ds := []) #[false, false, false, false, false, false] (by kernel_rfl) rfl rfl ⟨(blk_cell hB1.out 0), (blk_cell hB1.out 1), (blk_cell hB1.out 2), (blk_cell hB2.out 0), (blk_cell hB2.out 1), (blk_cell hB2.out 2)⟩ (fun hHeld => ?_)
        refine take_ (i := 0) (N := some 53) (v := ?_) (a' := ?_) #[true, false, false, false, false, false] rfl rfl (by kernel_rfl) (fun _ _ _ h => h) (Or.inl ⟨by rfl, ?_⟩) hHeld ?_ ?_
        rotate_left
        · rintro w' ⟨s0, s1, s2, s3, s4, s5⟩
          go_simp
          with_reducible rfl
        rotate_left
        · simp only [Act.put, List.setIfInBounds_toArray, List.set_cons_zero, List.set_cons_succ, i64_w, i32_w]
          rfl
        refine take_ (i := 2) (N := some 55) (v := ?_) (a' := ?_) #[true, false, true, false, false, false] rfl rfl (by kernel_rfl) (fun _ _ _ h => h) (Or.inl ⟨by rfl, ?_⟩) hHeld ?_ ?_
        rotate_left
        · rintro w' ⟨s0, s1, s2, s3, s4, s5⟩
          go_simp
          with_reducible rfl
        rotate_left
        · simp only [Act.put, List.setIfInBounds_toArray, List.set_cons_zero, List.set_cons_succ, i64_w, i32_w]
          rfl
        refine one_ (i := 1) (N := some 54) #[true, true, true, false, false, false] rfl rfl (by kernel_rfl) (by decide) (fun K hK => ?_)
        refine goes_ Try.func21 (by kernel_rfl) rfl #[.agg #[.string pk, .int .i64 pn, .int .i64 po]] (by rfl) rfl rfl (by (try simp only [List.map_toArray, List.map_cons, List.map_nil]); first | done | rfl) ?_
        with_reducible refine (ratio_calls _ _ _ _ y0 y1 y2 y3).mono ?_
        rintro e w4 ⟨rfl, hg⟩
        refine ⟨_, rfl, ?_⟩
        have hb := hg.below
        replace hB1 := Lib.hid (blk_below hB1.out hb (blk_lt hB1.out))
        replace hB2 := Lib.hid (blk_below hB2.out hb (blk_lt hB2.out))
        replace HB2 := Lib.hid (HB2.out.trans ((show Below _ _ _ from hb).mono HB2.out.size))
        clear hb hg
        refine hK.out _ _ ⟨(blk_cell hB1.out 0), (blk_cell hB1.out 1), (blk_cell hB1.out 2), (blk_cell hB2.out 0), (blk_cell hB2.out 1), (blk_cell hB2.out 2)⟩ (fun hHeld => ?_)
        clear hK K
        refine norm_ (a' := ?_) ?_ ?_
        rotate_left
        · show Act.put _ (some 54) _ = _
          simp only [Act.put, List.setIfInBounds_toArray, List.set_cons_zero, List.set_cons_succ, i64_w, i32_w]
          rfl
        refine one_ (i := 3) (N := some 56) #[true, true, true, true, false, false] rfl rfl (by kernel_rfl) (by decide) (fun K hK => ?_)
        refine goes_ Try.func21 (by kernel_rfl) rfl #[.agg #[.string rk, .int .i64 rn, .int .i64 ro]] (by rfl) rfl rfl (by (try simp only [List.map_toArray, List.map_cons, List.map_nil]); first | done | rfl) ?_
        with_reducible refine (ratio_calls _ _ _ _ g0 g1 g2 g3).mono ?_
        rintro e w5 ⟨rfl, hg⟩
        refine ⟨_, rfl, ?_⟩
        have hb := hg.below
        replace hB1 := Lib.hid (blk_below hB1.out hb (blk_lt hB1.out))
        replace hB2 := Lib.hid (blk_below hB2.out hb (blk_lt hB2.out))
        replace HB2 := Lib.hid (HB2.out.trans ((show Below _ _ _ from hb).mono HB2.out.size))
        clear hb hg
        refine hK.out _ _ ⟨(blk_cell hB1.out 0), (blk_cell hB1.out 1), (blk_cell hB1.out 2), (blk_cell hB2.out 0), (blk_cell hB2.out 1), (blk_cell hB2.out 2)⟩ (fun hHeld => ?_)
        clear hK K
        refine norm_ (a' := ?_) ?_ ?_
        rotate_left
        · show Act.put _ (some 56) _ = _
          simp only [Act.put, List.setIfInBounds_toArray, List.set_cons_zero, List.set_cons_succ, i64_w, i32_w]
          rfl
        refine one_ (i := 4) (N := some 57) #[true, true, true, true, true, false] rfl rfl (by kernel_rfl) (by decide) (fun K hK => ?_)
        refine goes_ Try.func20 (by kernel_rfl) rfl #[.agg #[.int .i64 pn, .int .i64 (po + 1)], .agg #[.int .i64 rn, .int .i64 (ro + 1)]] (by rfl) rfl rfl (by (try simp only [List.map_toArray, List.map_cons, List.map_nil]); first | done | rfl) ?_
        with_reducible refine (compareR_calls pn (po + 1) rn (ro + 1) _ (by omega) (by omega) (by omega) (by omega)).mono ?_
        rintro e w6 ⟨rfl, hg⟩
        refine ⟨_, rfl, ?_⟩
        rw [← HC.out]
        have hb := hg.below
        replace hB1 := Lib.hid (blk_below hB1.out hb (blk_lt hB1.out))
        replace hB2 := Lib.hid (blk_below hB2.out hb (blk_lt hB2.out))
        replace HB2 := Lib.hid (HB2.out.trans ((show Below _ _ _ from hb).mono HB2.out.size))
        clear hb hg
        refine hK.out _ _ ⟨(blk_cell hB1.out 0), (blk_cell hB1.out 1), (blk_cell hB1.out 2), (blk_cell hB2.out 0), (blk_cell hB2.out 1), (blk_cell hB2.out 2)⟩ (fun hHeld => ?_)
        clear hK K
        refine norm_ (a' := ?_) ?_ ?_
        rotate_left
        · show Act.put _ (some 57) _ = _
          simp only [Act.put, List.setIfInBounds_toArray, List.set_cons_zero, List.set_cons_succ, i64_w, i32_w]
          rfl
        refine pure_ (i := 5) (N := some 16) (v := ?_) (a' := ?_) #[true, true, true, true, true, true] rfl rfl (by kernel_rfl) (fun _ _ _ h => h) (Or.inl ⟨by rfl, ?_⟩) ?_ ?_
        rotate_left
        · intro w'
          go_simp
          with_reducible rfl
        rotate_left
        · simp only [Act.put, List.setIfInBounds_toArray, List.set_cons_zero, List.set_cons_succ, i64_w, i32_w]
          rfl
        refine done_ (by kernel_rfl) ?_
        have b0 := (blk_cell hB1.out 0).trans rfl
        have b1 := (blk_cell hB1.out 1).trans rfl
        have b3 := (blk_cell hB2.out 0).trans rfl
        have b4 := (blk_cell hB2.out 1).trans rfl
        have c1 : decide (c < 0) = false := by rw [decide_eq_false_iff_not]; omega
        clear hHeld
        by_cases hc0 : c = 0
        · have c2 : (c == 0) = true := by simp [hc0]
          obtain ⟨n3, n4⟩ := HN2.out hc0
          have c3 : decide (pn < rn) = false := by rw [decide_eq_false_iff_not]; omega
          by_cases hpr : pn = rn
          · have c4 : (pn == rn) = true := by simp [hpr]
            have c5 : Op.bytesLess pk.toList rk.toList = true := by rw [bl_cb]; exact decide_eq_true (n4 hpr)
            clear hc0 hpr n4
            go_wp2
            go_roundg (L.length - (j + 1 + 1))
            case measure => omega
            case rel => exact ⟨j + 1 + 1, by omega, by go_num, HB2⟩
          · have c4 : (pn == rn) = false := by simp [hpr]
            clear hc0 hpr n4
            go_wp2
            go_roundg (L.length - (j + 1 + 1))
            case measure => omega
            case rel => exact ⟨j + 1 + 1, by omega, by go_num, HB2⟩
        · have c2 : (c == 0) = false := by simp [hc0]
          clear hc0
          go_wp2
          go_roundg (L.length - (j + 1 + 1))
          case measure => omega
          case rel => exact ⟨j + 1 + 1, by omega, by go_num, HB2⟩
    · obtain rfl : k = L.length := by omega
      have HB3 := Lib.hid (HB.out.trans (HB2.out.mono HB.out.size))
      go_wp2_with fail
      refine (awake19_calls _).mono ?_
      rintro e' w2 ⟨rfl, hb⟩
      replace HB3 := Lib.hid (HB3.out.trans ((show Below _ _ _ from hb).mono HB3.out.size))
      clear hb
      go_wp2
      go_ret
      exact ⟨rfl, HB3.out⟩
set_option maxHeartbeats 4000000 in
theorem law_floors (n : Int) (l : List Add) (v : Value) (sp now fl x : Int) (w : World) (h0 : (Lit.int .i64 n).wf = true) (hl : AddsAt w l v) (h1 : (Lit.int .i64 sp).wf = true) (h2 : (Lit.int .i64 now).wf = true) (h3 : (Lit.int .i64 fl).wf = true) (h4 : (Lit.int .u8 x).wf = true) :
    Calls Try.prog 10 #[.int .i64 n, v, .int .i64 sp, .int .i64 now, .int .i64 fl, .int .u8 x] w (BoolPost w true) := by
  obtain ⟨x0, x1⟩ := bounds_u8 h4
  clear h0 h1 h2 h3 h4
  have HL := Lib.hid hl
  have HB : Hid (Below w.heap.size w w) := Below.refl _ _
  clear hl
  cases hlong : longC l
  case true =>
    have HLo := Lib.hid hlong
    clear hlong
    go_enter Try.func10, Try.ntmps10
    go_wp2_with fail
    refine (long19_calls _ l _ HL.out).mono ?_
    rintro e' w1 ⟨rfl, hb⟩
    rw [HLo.out]
    replace HL := Lib.hid (HL.out.below hb)
    replace HB := Lib.hid (HB.out.trans ((show Below _ _ _ from hb).mono HB.out.size))
    clear hb
    go_wp2_with fail
    refine (awake19_calls _).mono ?_
    rintro e' w2 ⟨rfl, hb⟩
    replace HB := Lib.hid (HB.out.trans ((show Below _ _ _ from hb).mono HB.out.size))
    clear hb
    go_wp2
    go_ret
    exact ⟨rfl, HB.out⟩
  have hlen := longC_false hlong
  have HLo := Lib.hid hlong
  clear hlong
  by_cases g0 : 0 ≤ fl
  case neg =>
    have d0 : decide (fl < 0) = true := by simpa using g0
    go_enter Try.func10, Try.ntmps10
    go_wp2_with fail
    refine (long19_calls _ l _ HL.out).mono ?_
    rintro e' w1 ⟨rfl, hb⟩
    rw [HLo.out]
    replace HL := Lib.hid (HL.out.below hb)
    replace HB := Lib.hid (HB.out.trans ((show Below _ _ _ from hb).mono HB.out.size))
    clear hb
    go_wp2_with fail
    refine (awake19_calls _).mono ?_
    rintro e' w2 ⟨rfl, hb⟩
    replace HB := Lib.hid (HB.out.trans ((show Below _ _ _ from hb).mono HB.out.size))
    clear hb
    go_wp2
    go_ret
    exact ⟨rfl, HB.out⟩
  by_cases g1 : fl ≤ 1099511627776
  case neg =>
    have d0 : decide (fl < 0) = false := by simpa using g0
    have d1 : decide (1099511627776 < fl) = true := by simpa using g1
    go_enter Try.func10, Try.ntmps10
    go_wp2_with fail
    refine (long19_calls _ l _ HL.out).mono ?_
    rintro e' w1 ⟨rfl, hb⟩
    rw [HLo.out]
    replace HL := Lib.hid (HL.out.below hb)
    replace HB := Lib.hid (HB.out.trans ((show Below _ _ _ from hb).mono HB.out.size))
    clear hb
    go_wp2_with fail
    refine (awake19_calls _).mono ?_
    rintro e' w2 ⟨rfl, hb⟩
    replace HB := Lib.hid (HB.out.trans ((show Below _ _ _ from hb).mono HB.out.size))
    clear hb
    go_wp2
    go_ret
    exact ⟨rfl, HB.out⟩
  have d0 : decide (fl < 0) = false := by simpa using g0
  have d1 : decide (1099511627776 < fl) = false := by simpa using g1
  go_enter Try.func10, Try.ntmps10
  go_wp2_with fail
  refine (long19_calls _ l _ HL.out).mono ?_
  rintro e' w1 ⟨rfl, hb⟩
  rw [HLo.out]
  replace HL := Lib.hid (HL.out.below hb)
  replace HB := Lib.hid (HB.out.trans ((show Below _ _ _ from hb).mono HB.out.size))
  clear hb
  go_wp2_with fail
  refine (fill19_calls _ n l _ HL.out (by omega)).mono ?_
  rintro e' w2 ⟨p, pb, rfl, hp1, _, _, hb⟩
  have HP := Lib.hid hp1
  clear hp1
  replace HB := Lib.hid (HB.out.trans ((show Below _ _ _ from hb).mono HB.out.size))
  clear hb
  obtain ⟨wd, hwd⟩ : ∃ wd, wd = min (max n 1) 1099511627776 := ⟨_, rfl⟩
  rw [← hwd] at HP
  clear hwd HL HLo
  obtain ⟨L, hL⟩ : ∃ L, L = risL l wd sp now fl := ⟨_, rfl⟩
  obtain ⟨M, hM⟩ : ∃ M, M = risL l wd sp now (fl + x) := ⟨_, rfl⟩
  have HF : Hid (L.filter (fun r => decide (fl + x ≤ r.nw)) = M) := by rw [hL, hM]; exact risL_floor l (by omega) wd sp now fl (fl + x) (by omega)
  have hLlen : L.length ≤ 40 := by
    rw [hL]; unfold risL; split
    · have := refR_len (riseOf l wd sp now) fl l [] []; simp at this; omega
    · simp
  have HLL := Lib.hid hL
  have HMM := Lib.hid hM
  clear hL hM
  obtain ⟨i0, hi, hz0, hz1, hz2⟩ := info_parts infoRise
  go_wp2_with fail
  refine (of_any _ l (by omega) p wd _ pb sp now fl HP.out).mono ?_
  rintro e' w3 ⟨v1, rfl, hr1, hb⟩
  rw [← HLL.out] at hr1
  replace HP := Lib.hid (HP.out.below hb)
  replace HB := Lib.hid (HB.out.trans ((show Below _ _ _ from hb).mono HB.out.size))
  clear hb
  have HR := Lib.hid hr1
  obtain ⟨so, cap, rfl, hmx⟩ := SliceR.shape hr1
  clear hr1 hmx
  go_wp2
  go_loopg [14, 39] L.length (fun m out i wr => ∃ (k n : Nat) (o : Option Addr) (cp : Nat), k + m = L.length ∧ i = .int .i64 k ∧ out = .slice o n cp ∧ n ≤ k ∧ Hid (wr.ownsRow w3.heap.size 35 3 (.slice o n cp) n (((L.take k).filter fun r => decide (fl + x ≤ r.nw)).flatMap encZ)) ∧ Hid (Below w3.heap.size w3 wr))
  case atStart => exact ⟨0, 0, _, _, by omega, rfl, rfl, Nat.le_refl _, Lib.hid (by simpa using World.ownsRow_nil _ _ _ _), Below.refl _ _⟩
  case round =>
    obtain ⟨k, n', so', sc', hkm, rfl, rfl, hnk, HW, HB2⟩ := hrel
    by_cases hkn : k < L.length
    · obtain ⟨b, f, d, q1, hb1, e1⟩ := CK.RowK.cell (HR.out.below HB2.out) hkn
      cases q1
      obtain ⟨⟨rk, rn, ro⟩, hr⟩ : ∃ c : Rz, c = L[k] := ⟨_, rfl⟩
      rw [← hr] at e1
      have a0 : wr.cell? ⟨b, f + k * 3, none⟩ = some (.string rk) := (e1 0 (by omega)).trans rfl
      have a1 : wr.cell? ⟨b, f + k * 3 + 1, none⟩ = some (.int .i64 rn) := (e1 1 (by omega)).trans rfl
      have a2 : wr.cell? ⟨b, f + k * 3 + 2, none⟩ = some (.int .i64 ro) := (e1 2 (by omega)).trans rfl
      have HTK : Hid ((L.take (k + 1)).filter (fun r => decide (fl + x ≤ r.nw)) = (L.take k).filter (fun r => decide (fl + x ≤ r.nw)) ++ if fl + x ≤ rn then [⟨rk, rn, ro⟩] else []) := by
        show _ = _
        rw [List.take_succ_eq_append_getElem hkn, ← hr, List.filter_append]
        congr 1
        by_cases h : fl + x ≤ rn <;> simp [List.filter_cons, h]
      clear e1 hr
      by_cases hc : fl + x ≤ rn
      · have dc : decide (fl + x ≤ rn) = true := by simpa using hc
        rw [if_pos hc] at HTK
        have HWb : Hid ((wr.alloc (.cells #[.string rk, .int .i64 rn, .int .i64 ro] 35)).ownsRow w3.heap.size 35 3 (.slice so' n' sc') n' (((L.take k).filter fun r => decide (fl + x ≤ r.nw)).flatMap encZ)) := HW.out.alloc _
        have HBb : Hid (Below w3.heap.size w3 (wr.alloc (.cells #[.string rk, .int .i64 rn, .int .i64 ro] 35))) := HB2.out.alloc HB2.out.size _
        have hbase : w3.heap.size ≤ wr.heap.size := HB2.out.size
        go_wp2_with (at_builtin; refine wpList_append_own _ rfl _ _ 32 rfl w3.heap.size 35 i0 (.agg #[.string ⟨#[]⟩, .int .i64 0, .int .i64 0]) 3 32 Try.underlying32 hi hz0 hz1 hz2 rfl (by decide) _ _ _ rfl (HWb.out.alloc _) ⟨wr.heap.size + 1, 0, none⟩ 1 1 [.string rk, .int .i64 rn, .int .i64 ro] rfl rfl ?c1 ?c2 ?c3 ?c4 ?c5 ?_)
        case c1 => exact fun j u hu => by have := cell_newZ (wr.alloc (.cells #[.string rk, .int .i64 rn, .int .i64 ro] 35)) rk rn ro j u hu; simpa using this
        case c2 => exact fun x hx => by simp at hx; rcases hx with rfl | rfl | rfl <;> rfl
        case c3 => unfold maxLen; omega
        case c4 => omega
        case c5 => simp; omega
        intro v' w4 hown' hgrow _
        have hb4 : Below w3.heap.size (wr.alloc (.cells #[.string rk, .int .i64 rn, .int .i64 ro] 35)) w4 := below_append HWb.out (by simp; omega) hgrow
        have HO := Lib.hid hown'
        have HB4 := Lib.hid (HBb.out.trans hb4)
        clear hown' hgrow hb4
        obtain ⟨so2, sc2, rfl⟩ := ownsRow_shape HO.out
        go_wp2
        go_roundg (L.length - (k + 1))
        case measure => omega
        case rel =>
          refine ⟨k + 1, n' + 1, _, _, by omega, by go_num, rfl, by omega, ?_, HB4⟩
          show World.ownsRow _ _ _ _ _ _ _
          have := HO.out
          rw [HTK.out, List.flatMap_append]
          exact this
      · have dc : decide (fl + x ≤ rn) = false := by simpa using hc
        rw [if_neg hc, List.append_nil] at HTK
        go_wp2
        go_roundg (L.length - (k + 1))
        case measure => omega
        case rel =>
          refine ⟨k + 1, n', _, _, by omega, by go_num, rfl, by omega, ?_, HB2.out.alloc HB2.out.size _⟩
          show World.ownsRow _ _ _ _ _ _ _
          rw [HTK.out]
          exact HW.out.alloc _
    · obtain rfl : k = L.length := by omega
      have HM : Hid (CK.RowK encZ 3 wr M (.slice so' n' sc')) := by
        have h0 := HW.out
        rw [List.take_length, HF.out] at h0
        have : n' = M.length := by
          have h1 := h0.1
          rw [CK.flat_len encZ_len] at h1
          omega
        rw [this] at h0 ⊢
        exact CK.rowK_of_own encZ_len h0
      replace HB := Lib.hid (HB.out.trans (HB2.out.mono HB.out.size))
      replace HP := Lib.hid (HP.out.below HB2.out)
      clear HB2 HW
      go_wp2_with fail
      refine (of_any _ l (by omega) p wd _ pb sp now (fl + x) HP.out).mono ?_
      rintro e' w5 ⟨v2, rfl, hr2, hb⟩
      rw [← HMM.out] at hr2
      replace HM := Lib.hid (HM.out.below hb)
      have HR2 := Lib.hid hr2
      clear hr2
      replace HB := Lib.hid (HB.out.trans ((show Below _ _ _ from hb).mono HB.out.size))
      clear hb
      go_wp2_with fail
      refine (sameZ_calls _ _ _ _ _ HR2.out HM.out rfl).mono ?_
      rintro e' w6 ⟨rfl, hb⟩
      replace HB := Lib.hid (HB.out.trans ((show Below _ _ _ from hb).mono HB.out.size))
      clear hb
      go_wp2_with fail
      refine (awake19_calls _).mono ?_
      rintro e' w2 ⟨rfl, hb⟩
      replace HB := Lib.hid (HB.out.trans ((show Below _ _ _ from hb).mono HB.out.size))
      clear hb
      go_wp2
      go_ret
      exact ⟨rfl, HB.out⟩
end Go.Proofs.Ytmddlbgdmdepdaa
