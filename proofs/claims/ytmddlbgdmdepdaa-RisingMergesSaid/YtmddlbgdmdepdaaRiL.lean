/- The contracts of the law's own long and fill. No condition. -/
import Derived.Test.YtmddlbgdmdepdaaWinI
set_option linter.unusedVariables false
set_option linter.unusedSimpArgs false
set_option maxRecDepth 100000
namespace Go.Proofs.Ytmddlbgdmdepdaa
open Go.Maps Go.MapKept Go.RowKit Go.ChangeMaps CK Go.Proofs.YtmddlbgdmdepdaaW.PrintLast

def longC (l : List Add) : Bool := l.any (fun a => decide (60 < a.key.size)) || decide (40 < l.length)
set_option maxHeartbeats 400000 in
theorem long19_calls (w : World) (l : List Add) (v : Value) (h : AddsAt w l v) : Calls Try.prog 32 #[v] w (BoolPost w (longC l)) := by
  rcases h with ⟨rfl, o, cap, rfl, _⟩ | ⟨b, off, cap, rfl, hn1, h11, h12, h13, h14⟩
  · go_enter Try.func32, Try.ntmps32
    go_wp2
    refine wp_loop_rounds 1 ?_
    rw [rounds_succ]
    go_wp2
    go_ret
    exact ⟨ret_bool (by simp [longC]), Below.refl _ _⟩
  · have HC := Lib.hid (AddsAt.cells h14)
    have hmx : l.length ≤ 9223372036854775807 := by unfold maxLen at *; omega
    have HN := Lib.hid hn1
    clear h14 hn1 h11 h12
    go_enter Try.func32, Try.ntmps32
    go_wp2
    go_loopg [7] l.length (fun m i wr => ∃ k : Nat, k + m = l.length ∧ i = .int .i64 k ∧ Hid (Below w.heap.size w wr) ∧ Hid (∀ i (h : i < l.length), i < k → l[i].key.size ≤ 60))
    case atStart => exact ⟨0, by omega, rfl, Below.refl _ _, fun i hi => by omega⟩
    case round =>
      obtain ⟨k, hk, rfl, HB, HK⟩ := hrel
      by_cases hkn : k < l.length
      · obtain ⟨hok, e0, e1, e2⟩ := HC.out k hkn
        have k0 := (HB.out.cell (p := ⟨b, off + k * 3, none⟩) h13).trans e0
        have k1 := (HB.out.cell (p := ⟨b, off + k * 3 + 1, none⟩) h13).trans e1
        have k2 := (HB.out.cell (p := ⟨b, off + k * 3 + 2, none⟩) h13).trans e2
        obtain ⟨a, ha⟩ : ∃ a, a = l[k] := ⟨_, rfl⟩
        rw [← ha] at k0 k1 k2
        have HA := Lib.hid ha
        clear e0 e1 e2 hok ha
        by_cases hs : 60 < a.key.size
        · go_wp2
          go_ret
          refine ⟨ret_bool ?_, (HB.out).alloc HB.out.size _⟩
          symm
          simp only [longC, Bool.or_eq_true, List.any_eq_true, decide_eq_true_eq]
          exact .inl ⟨a, by rw [HA.out]; exact List.getElem_mem _, hs⟩
        · go_wp2
          go_roundg (l.length - (k + 1))
          case measure => omega
          case rel =>
            refine ⟨k + 1, by omega, by go_num, HB.out.alloc HB.out.size _, fun i hi hik => ?_⟩
            rcases Nat.lt_or_ge i k with h | h
            · exact HK.out i hi h
            · obtain rfl : i = k := by omega
              rw [← HA.out]; omega
      · obtain rfl : k = l.length := by omega
        go_wp2
        go_ret
        refine ⟨ret_bool ?_, HB.out⟩
        unfold longC
        have : l.any (fun a => decide (60 < a.key.size)) = false := by
          rw [List.any_eq_false]
          intro a ha
          obtain ⟨i, hi, rfl⟩ := List.mem_iff_getElem.1 ha
          have := HK.out i hi hi
          simp; omega
        rw [this]
        simp only [Bool.false_or]
        rw [decide_eq_decide]
        omega
set_option maxHeartbeats 1000000 in
theorem fill19_calls (w : World) (n : Int) (l : List Add) (v : Value) (h : AddsAt w l v) (hl : l.length ≤ 60) : Calls Try.prog 34 #[.int .i64 n, v] w (FillPost w n l) := by
  rcases h with ⟨rfl, o, cap, rfl, _⟩ | ⟨b, off, cap, rfl, hn1, h11, h12, h13, h14⟩
  · go_enter Try.func34, Try.ntmps34
    go_wp2_with fail
    refine (new_calls _ _).mono ?_
    rintro e w1 ⟨p, b, rfl, hp, h1, h2, h3⟩
    have HF : Hid (FillPost w n [] (.returned (.pointer (some ⟨p, 0, none⟩))) w1) := ⟨p, b, rfl, hp, h1, h2, h3⟩
    clear hp h1 h2 h3
    go_wp2
    refine wp_loop_rounds 1 ?_
    rw [rounds_succ]
    go_wp2
    go_ret
    exact HF.out
  · have HC := Lib.hid (AddsAt.cells h14)
    clear h14 hn1 h11 h12
    go_enter Try.func34, Try.ntmps34
    go_wp2_with fail
    refine (new_calls _ _).mono ?_
    rintro e w1 ⟨p, pb, rfl, hp, h1, h2, h3⟩
    obtain ⟨wd, hwd⟩ : ∃ wd, wd = min (max n 1) 1099511627776 := ⟨_, rfl⟩
    rw [← hwd] at hp
    have HWD := Lib.hid hwd
    clear hwd
    have HP := Lib.hid hp
    have HB := Lib.hid h3
    have HG : Hid (w.heap.size ≤ p ∧ w.heap.size ≤ pb) := ⟨h1, h2⟩
    clear hp h1 h2 h3
    go_wp2
    go_loopg [14] l.length (fun m i wr => ∃ k : Nat, k + m = l.length ∧ i = .int .i64 k ∧ Hid (Below w.heap.size w wr) ∧ Hid (PanesAt wr p wd (cntOf (l.take k)) pb (sumsOf wd (l.take k))))
    case atStart => exact ⟨0, by omega, rfl, HB, HP⟩
    case round =>
      obtain ⟨k, hk, rfl, HB, HP⟩ := hrel
      by_cases hkn : k < l.length
      · obtain ⟨hok, e0, e1, e2⟩ := HC.out k hkn
        have k0 := (HB.out.cell (p := ⟨b, off + k * 3, none⟩) h13).trans e0
        have k1 := (HB.out.cell (p := ⟨b, off + k * 3 + 1, none⟩) h13).trans e1
        have k2 := (HB.out.cell (p := ⟨b, off + k * 3 + 2, none⟩) h13).trans e2
        obtain ⟨a, ha⟩ : ∃ a, a = l[k] := ⟨_, rfl⟩
        rw [← ha] at k0 k1 k2 hok
        have htk : l.take (k + 1) = l.take k ++ [a] := by rw [ha, List.take_succ_eq_append_getElem hkn]
        have HTK := Lib.hid htk
        have hsz : a.key.size ≤ 9223372036854775807 := hok.1
        have TR : Hid (takes (cntOf (l.take k)) a.key a.at_ a.n = rightB a) := takes_right a _ (by have := cntOf_le (l.take k); have := List.length_take_le k l; omega)
        clear e0 e1 e2 hok ha htk
        have BK : Hid ((wr.alloc (.cells #[.string a.key, .int .i64 a.at_, .int .i64 a.n] 60)).drew.heap[wr.heap.size]? = some (.cells #[.string a.key, .int .i64 a.at_, .int .i64 a.n] 60 (0, 0))) := blk_new wr _
        have HPL : Hid (p < wr.heap.size ∧ pb < wr.heap.size) := ⟨blk_lt HP.out.blk, HP.out.map.lt⟩
        have HP0 : Hid (PanesAt (wr.alloc (.cells #[.string a.key, .int .i64 a.at_, .int .i64 a.n] 60)).drew p wd (cntOf (l.take k)) pb (sumsOf wd (l.take k))) := HP.out.below ((Below.refl _ wr).alloc (Nat.le_refl _) _).drew
        have HB0 : Hid (Below w.heap.size w (wr.alloc (.cells #[.string a.key, .int .i64 a.at_, .int .i64 a.n] 60)).drew) := (HB.out.alloc HB.out.size _).drew
        go_wp2_with fail
        refine start_ (n := 11) (S := fun w' => w'.cell? ⟨wr.heap.size, 0, none⟩ = some (.string a.key) ∧ w'.cell? ⟨wr.heap.size, 1, none⟩ = some (.int .i64 a.at_) ∧ w'.cell? ⟨wr.heap.size, 2, none⟩ = some (.int .i64 a.n)) (ds := []) #[false, false, false, false, false, false, false, false, false, false, false] (by kernel_rfl) rfl rfl ⟨(blk_cell BK.out 0), (blk_cell BK.out 1), (blk_cell BK.out 2)⟩ (fun hHeld => ?_)
        refine pure_ (i := 0) (N := some 18) (v := ?_) (a' := ?_) #[true, false, false, false, false, false, false, false, false, false, false] rfl rfl (by kernel_rfl) (fun _ _ _ h => h) (Or.inl ⟨by rfl, ?_⟩) ?_ ?_
        rotate_left
        · intro w'
          go_simp
          with_reducible rfl
        rotate_left
        · simp only [Act.put, List.setIfInBounds_toArray, List.set_cons_zero, List.set_cons_succ, i64_w, i32_w]
          rfl
        refine pure_ (i := 1) (N := some 19) (v := ?_) (a' := ?_) #[true, true, false, false, false, false, false, false, false, false, false] rfl rfl (by kernel_rfl) (fun _ _ _ h => h) (Or.inl ⟨by rfl, ?_⟩) ?_ ?_
        rotate_left
        · intro w'
          go_simp
          with_reducible rfl
        rotate_left
        · simp only [Act.put, List.setIfInBounds_toArray, List.set_cons_zero, List.set_cons_succ, i64_w, i32_w]
          rfl
        refine pure_ (i := 3) (N := some 21) (v := ?_) (a' := ?_) #[true, true, false, true, false, false, false, false, false, false, false] rfl rfl (by kernel_rfl) (fun _ _ _ h => h) (Or.inl ⟨by rfl, ?_⟩) ?_ ?_
        rotate_left
        · intro w'
          go_simp
          with_reducible rfl
        rotate_left
        · simp only [Act.put, List.setIfInBounds_toArray, List.set_cons_zero, List.set_cons_succ, i64_w, i32_w]
          rfl
        refine pure_ (i := 5) (N := some 23) (v := ?_) (a' := ?_) #[true, true, false, true, false, true, false, false, false, false, false] rfl rfl (by kernel_rfl) (fun _ _ _ h => h) (Or.inl ⟨by rfl, ?_⟩) ?_ ?_
        rotate_left
        · intro w'
          go_simp
          with_reducible rfl
        rotate_left
        · simp only [Act.put, List.setIfInBounds_toArray, List.set_cons_zero, List.set_cons_succ, i64_w, i32_w]
          rfl
        refine take_ (i := 2) (N := some 20) (v := ?_) (a' := ?_) #[true, true, true, true, false, true, false, false, false, false, false] rfl rfl (by kernel_rfl) (fun _ _ _ h => h) (Or.inl ⟨by rfl, ?_⟩) hHeld ?_ ?_
        rotate_left
        · rintro w' ⟨s0, s1, s2⟩
          go_simp
          with_reducible rfl
        rotate_left
        · simp only [Act.put, List.setIfInBounds_toArray, List.set_cons_zero, List.set_cons_succ, i64_w, i32_w]
          rfl
        refine take_ (i := 4) (N := some 22) (v := ?_) (a' := ?_) #[true, true, true, true, true, true, false, false, false, false, false] rfl rfl (by kernel_rfl) (fun _ _ _ h => h) (Or.inl ⟨by rfl, ?_⟩) hHeld ?_ ?_
        rotate_left
        · rintro w' ⟨s0, s1, s2⟩
          go_simp
          with_reducible rfl
        rotate_left
        · simp only [Act.put, List.setIfInBounds_toArray, List.set_cons_zero, List.set_cons_succ, i64_w, i32_w]
          rfl
        refine take_ (i := 6) (N := some 24) (v := ?_) (a' := ?_) #[true, true, true, true, true, true, true, false, false, false, false] rfl rfl (by kernel_rfl) (fun _ _ _ h => h) (Or.inl ⟨by rfl, ?_⟩) hHeld ?_ ?_
        rotate_left
        · rintro w' ⟨s0, s1, s2⟩
          go_simp
          with_reducible rfl
        rotate_left
        · simp only [Act.put, List.setIfInBounds_toArray, List.set_cons_zero, List.set_cons_succ, i64_w, i32_w]
          rfl
        refine take_ (i := 8) (N := some 26) (v := ?_) (a' := ?_) #[true, true, true, true, true, true, true, false, true, false, false] rfl rfl (by kernel_rfl) (fun _ _ _ h => h) (Or.inl ⟨by rfl, ?_⟩) hHeld ?_ ?_
        rotate_left
        · rintro w' ⟨s0, s1, s2⟩
          go_simp
          with_reducible rfl
        rotate_left
        · simp only [Act.put, List.setIfInBounds_toArray, List.set_cons_zero, List.set_cons_succ, i64_w, i32_w]
          rfl
        refine one_ (i := 7) (N := some 25) #[true, true, true, true, true, true, true, true, true, false, false] rfl rfl (by kernel_rfl) (by decide) (fun K hK => ?_)
        refine goes_ Try.func17 (by kernel_rfl) rfl #[.pointer (some ⟨p, 0, none⟩), .string a.key, .int .i64 a.at_, .int .i64 a.n] (by rfl) rfl rfl (by (try simp only [List.map_toArray, List.map_cons, List.map_nil]); first | done | rfl) ?_
        with_reducible refine (add_calls _ _ wd _ pb _ _ _ _ HP0.out hsz).mono ?_
        rintro e w3 ⟨rfl, hfr, hpa⟩
        refine ⟨_, rfl, ?_⟩
        rw [TR.out] at hpa ⊢
        have HP1 := Lib.hid hpa
        have HF1 := Lib.hid hfr
        have BK := Lib.hid (blk_fr BK.out hfr (by have := HPL.out; simp; omega))
        clear hfr hpa
        refine hK.out _ _ ⟨(blk_cell BK.out 0), (blk_cell BK.out 1), (blk_cell BK.out 2)⟩ (fun hHeld => ?_)
        clear hK K
        refine norm_ (a' := ?_) ?_ ?_
        rotate_left
        · show Act.put _ (some 25) _ = _
          simp only [Act.put, List.setIfInBounds_toArray, List.set_cons_zero, List.set_cons_succ, i64_w, i32_w]
          rfl
        refine one_ (i := 9) (N := some 27) #[true, true, true, true, true, true, true, true, true, true, false] rfl rfl (by kernel_rfl) (by decide) (fun K hK => ?_)
        refine goes_ Try.func54 (by kernel_rfl) rfl #[.agg #[.string a.key, .int .i64 a.at_, .int .i64 a.n]] (by rfl) rfl rfl (by (try simp only [List.map_toArray, List.map_cons, List.map_nil]); first | done | rfl) ?_
        with_reducible refine (right_calls _ a).mono ?_
        rintro e w4 ⟨rfl, hb⟩
        refine ⟨_, rfl, ?_⟩
        have HP2 := Lib.hid (HP1.out.below hb)
        have HB2 := Lib.hid hb
        have BK := Lib.hid (blk_below BK.out hb (blk_lt BK.out))
        refine hK.out _ _ ⟨(blk_cell BK.out 0), (blk_cell BK.out 1), (blk_cell BK.out 2)⟩ (fun hHeld => ?_)
        clear hK K
        refine norm_ (a' := ?_) ?_ ?_
        rotate_left
        · show Act.put _ (some 27) _ = _
          simp only [Act.put, List.setIfInBounds_toArray, List.set_cons_zero, List.set_cons_succ, i64_w, i32_w]
          rfl
        refine pure_ (i := 10) (N := some 28) (v := ?_) (a' := ?_) #[true, true, true, true, true, true, true, true, true, true, true] rfl rfl (by kernel_rfl) (fun _ _ _ h => h) (Or.inl ⟨by rfl, ?_⟩) ?_ ?_
        rotate_left
        · intro w'
          go_simp
          with_reducible rfl
        rotate_left
        · simp only [Act.put, List.setIfInBounds_toArray, List.set_cons_zero, List.set_cons_succ, i64_w, i32_w]
          rfl
        refine done_ (by kernel_rfl) ?_
        clear hb hHeld k0 k1 k2
        have hne : (rightB a != rightB a) = false := by simp
        have HB1 : Hid (Below w.heap.size w w3) := HB0.out.trans (HF1.out.below HB0.out.size (by have := HG.out; simp; omega))
        go_wp2
        go_roundg (l.length - (k + 1))
        case measure => omega
        case rel =>
          refine ⟨k + 1, by omega, by go_num, HB1.out.trans (HB2.out.mono HB1.out.size), ?_⟩
          show PanesAt _ _ _ _ _ _
          rw [HTK.out, cntOf_snoc, sumsOf_snoc]
          exact HP2.out
      · obtain rfl : k = l.length := by omega
        go_wp2
        go_ret
        have HP' := HP.out
        rw [List.take_length] at HP'
        exact ⟨p, pb, rfl, by rw [← HWD.out]; exact HP', HG.out.1, HG.out.2, HB.out⟩

theorem longC_false {l : List Add} (h : longC l = false) : l.length ≤ 40 := by
  simp only [longC, Bool.or_eq_false_iff, decide_eq_false_iff_not] at h; omega
end Go.Proofs.Ytmddlbgdmdepdaa
