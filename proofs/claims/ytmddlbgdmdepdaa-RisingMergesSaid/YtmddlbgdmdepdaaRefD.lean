/- The contract of the document's Top, by a walk. No condition. -/
import Derived.Test.YtmddlbgdmdepdaaRefC
set_option linter.unusedVariables false
set_option linter.unusedSimpArgs false
set_option maxRecDepth 100000
namespace Go.Proofs.Ytmddlbgdmdepdaa
open Go.Maps Go.MapKept Go.RowKit Go.ChangeMaps Go.Shelf CK Go.Proofs.YtmddlbgdmdepdaaW.PrintLast

theorem adds_cellD {w : World} {l : List Add} {v : Value} (h : AddsAt w l v) {k : Nat} (hk : k < l.length) : ∃ b o cap, v = .slice (some ⟨b, o, none⟩) l.length cap ∧ b < w.heap.size ∧ l[k].ok ∧ w.cell? ⟨b, o + k * 3, none⟩ = some (.string l[k].key) ∧ w.cell? ⟨b, o + k * 3 + 1, none⟩ = some (.int .i64 l[k].at_) ∧ w.cell? ⟨b, o + k * 3 + 2, none⟩ = some (.int .i64 l[k].n) := by
  rcases h with ⟨rfl, _⟩ | ⟨b, o, cap, rfl, _, _, _, h3, h4⟩
  · simp at hk
  · obtain ⟨h5, h6, h7, h8⟩ := AddsAt.cells h4 k hk
    exact ⟨b, o, cap, rfl, h3, h5, h6, h7, h8⟩
set_option maxHeartbeats 2000000 in
theorem rtop_calls (w : World) (l : List Add) (v : Value) (sz hp wd e n : Int) (h : AddsAt w l v) (hl : l.length ≤ 60) :
    Calls Try.prog 27 #[v, .agg #[.int .i64 sz, .int .i64 hp], .int .i64 wd, .int .i64 e, .int .i64 n] w (TopPost w ((refTop [] (fun key => if mayB sz hp wd && endB hp e then atSum l sz e key else 0) l []).take (min (max n 0) (refTop [] (fun key => if mayB sz hp wd && endB hp e then atSum l sz e key else 0) l []).length).toNat)) := by
  obtain ⟨g, hg⟩ : ∃ g : ByteArray → Int, g = (fun key => if mayB sz hp wd && endB hp e then atSum l sz e key else 0) := ⟨_, rfl⟩
  rw [← hg]
  have HG : Hid (∀ key, (if mayB sz hp wd && endB hp e then atSum l sz e key else 0) = g key) := fun key => by rw [hg]
  clear hg
  have HL := Lib.hid h
  have BK : Hid ((w.alloc (.cells #[.int .i64 sz, .int .i64 hp] 44)).heap[w.heap.size]? = some (.cells #[.int .i64 sz, .int .i64 hp] 44 (0, 0))) := blk_new w _
  obtain ⟨so, scap, rfl, hmx⟩ := SliceR.shape h
  clear h
  go_enter Try.func27, Try.ntmps27
  go_wp2
  go_loopg [11, 12] l.length (fun m out i wr => ∃ (k : Nat), k + m = l.length ∧ i = .int .i64 k ∧ Hid (CK.RowK encC 2 wr (refTop [] g (l.take k) []) out) ∧ Hid (Below w.heap.size w wr) ∧ Hid (wr.heap[w.heap.size]? = some (.cells #[.int .i64 sz, .int .i64 hp] 44 (0, 0))))
  case atStart =>
    refine ⟨0, by omega, rfl, ?_, ?_, ?_⟩
    · exact .inl ⟨by simp [refTop], _, _, rfl, Nat.zero_le _⟩
    · exact ((Below.refl _ w).alloc (Nat.le_refl _) _).alloc (by simp) _
    · exact blk_below BK.out ((Below.refl _ _).alloc (Nat.le_refl _) _) (by simp)
  case round =>
    obtain ⟨k, hkm, rfl, HO, HB, BK⟩ := hrel
    by_cases hkn : k < l.length
    · obtain ⟨b, f, d, q1, hb1, hok, e0, e1, e2⟩ := adds_cellD HL.out hkn
      cases q1
      obtain ⟨a, ha⟩ : ∃ a, a = l[k] := ⟨_, rfl⟩
      rw [← ha] at e0
      have HA := Lib.hid ha
      have HTK : Hid (l.take (k + 1) = l.take k ++ [a]) := by rw [ha]; exact List.take_succ_eq_append_getElem hkn
      have K0 := Lib.hid ((HB.out.cell (p := ⟨b, f + k * 3, none⟩) hb1).trans e0)
      clear e0 e1 e2 hok ha
      go_wp2
      go_loopg [13, 14] k (fun m fi j wr => ∃ q : Nat, q + m = k ∧ j = .int .i64 q ∧ fi = .bool (!((l.take q).any fun x => decide (x.key = a.key))) ∧ Hid (CK.RowK encC 2 wr (refTop [] g (l.take k) []) u11) ∧ Hid (Below w.heap.size w wr) ∧ Hid (wr.heap[w.heap.size]? = some (.cells #[.int .i64 sz, .int .i64 hp] 44 (0, 0))) ∧ Hid (wr.cell? ⟨b, f + k * 3, none⟩ = some (.string a.key)))
      case atStart => exact ⟨0, by omega, rfl, by simp, HO, HB, BK, K0⟩
      case round =>
        clear HO HB BK K0
        obtain ⟨q, hqm, rfl, rfl, HO, HB, BK, K0⟩ := hrel
        obtain ⟨D, hD⟩ : ∃ D, D = (l.take q).any (fun x => decide (x.key = a.key)) := ⟨_, rfl⟩
        rw [← hD]
        have HD := Lib.hid hD
        clear hD
        by_cases hqn : q < k
        · have hql : q < l.length := by omega
          obtain ⟨b', f', d', q1, hb1', hok, e0, _, _⟩ := adds_cellD HL.out hql
          cases q1
          obtain ⟨y, hy⟩ : ∃ y, y = l[q] := ⟨_, rfl⟩
          rw [← hy] at e0
          have HTQ : Hid (l.take (q + 1) = l.take q ++ [y]) := by rw [hy]; exact List.take_succ_eq_append_getElem hql
          have Y0 : Hid (wr.drew.cell? ⟨b, f + q * 3, none⟩ = some (.string y.key)) := (HB.out.cell (p := ⟨b, f + q * 3, none⟩) hb1).trans e0
          have K0d : Hid (wr.drew.cell? ⟨b, f + k * 3, none⟩ = some (.string a.key)) := K0.out
          have HOd : Hid (CK.RowK encC 2 wr.drew (refTop [] g (l.take k) []) u11) := HO.out.below (Below.refl _ _).drew
          have HBd : Hid (Below w.heap.size w wr.drew) := HB.out.drew
          have BKd : Hid (wr.drew.heap[w.heap.size]? = some (.cells #[.int .i64 sz, .int .i64 hp] 44 (0, 0))) := BK.out
          obtain ⟨ne, hne⟩ : ∃ ne, (y.key.toList != a.key.toList) = ne := ⟨_, rfl⟩
          have HNE : Hid (decide (y.key = a.key) = !ne) := by
            show _ = _
            rw [← hne, bne, Bool.not_not]
            by_cases h : y.key = a.key
            · simp [h]
            · have : (y.key.toList == a.key.toList) = false := by rw [beq_eq_false_iff_ne]; exact fun h' => h (ba_eq.1 h')
              rw [this]; simpa using h
          have hany : (l.take (q + 1)).any (fun x => decide (x.key = a.key)) = (D || !ne) := by rw [HTQ.out, List.any_append, ← HD.out]; simp [HNE.out]
          have HANY := Lib.hid hany
          clear e0 hy hok hany
          cases D
          · go_wp2_with fail
            refine start_ (n := 15) (S := fun w' => w'.cell? ⟨b, f + q * 3, none⟩ = some (.string y.key) ∧ w'.cell? ⟨b, f + k * 3, none⟩ = some (.string a.key)) (ds := []) #[false, false, false, false, false, false, false, false, false, false, false, false, false, false, false] (by kernel_rfl) rfl rfl ⟨Y0.out, K0d.out⟩ (fun hHeld => ?_)
            refine pure_ (i := 0) (N := some 28) (v := ?_) (a' := ?_) #[true, false, false, false, false, false, false, false, false, false, false, false, false, false, false] rfl rfl (by kernel_rfl) (fun _ _ _ h => h) (Or.inl ⟨by rfl, ?_⟩) ?_ ?_
            rotate_left
            · intro w'
              go_simp
              with_reducible rfl
            rotate_left
            · simp only [Act.put, List.setIfInBounds_toArray, List.set_cons_zero, List.set_cons_succ, i64_w, i32_w]
              rfl
            refine pure_ (i := 1) (N := some 29) (v := ?_) (a' := ?_) #[true, true, false, false, false, false, false, false, false, false, false, false, false, false, false] rfl rfl (by kernel_rfl) (fun _ _ _ h => h) (Or.inl ⟨by rfl, ?_⟩) ?_ ?_
            rotate_left
            · intro w'
              go_simp
              with_reducible rfl
            rotate_left
            · simp only [Act.put, List.setIfInBounds_toArray, List.set_cons_zero, List.set_cons_succ, i64_w, i32_w]
              rfl
            refine pure_ (i := 2) (N := some 30) (v := ?_) (a' := ?_) #[true, true, true, false, false, false, false, false, false, false, false, false, false, false, false] rfl rfl (by kernel_rfl) (fun _ _ _ h => h) (Or.inl ⟨by rfl, ?_⟩) ?_ ?_
            rotate_left
            · intro w'
              go_simp
              with_reducible rfl
            rotate_left
            · simp only [Act.put, List.setIfInBounds_toArray, List.set_cons_zero, List.set_cons_succ, i64_w, i32_w]
              rfl
            refine pure_ (i := 3) (N := some 31) (v := ?_) (a' := ?_) #[true, true, true, true, false, false, false, false, false, false, false, false, false, false, false] rfl rfl (by kernel_rfl) (fun _ _ _ h => h) (Or.inl ⟨by rfl, ?_⟩) ?_ ?_
            rotate_left
            · intro w'
              go_simp
              with_reducible rfl
            rotate_left
            · simp only [Act.put, List.setIfInBounds_toArray, List.set_cons_zero, List.set_cons_succ, i64_w, i32_w]
              rfl
            refine pure_ (i := 4) (N := some 32) (v := ?_) (a' := ?_) #[true, true, true, true, true, false, false, false, false, false, false, false, false, false, false] rfl rfl (by kernel_rfl) (fun _ _ _ h => h) (Or.inl ⟨by rfl, ?_⟩) ?_ ?_
            rotate_left
            · intro w'
              go_simp
              with_reducible rfl
            rotate_left
            · simp only [Act.put, List.setIfInBounds_toArray, List.set_cons_zero, List.set_cons_succ, i64_w, i32_w]
              rfl
            refine pure_ (i := 5) (N := some 33) (v := ?_) (a' := ?_) #[true, true, true, true, true, true, false, false, false, false, false, false, false, false, false] rfl rfl (by kernel_rfl) (fun _ _ _ h => h) (Or.inl ⟨by rfl, ?_⟩) ?_ ?_
            rotate_left
            · intro w'
              go_simp
              with_reducible rfl
            rotate_left
            · simp only [Act.put, List.setIfInBounds_toArray, List.set_cons_zero, List.set_cons_succ, i64_w, i32_w]
              rfl
            refine pure_ (i := 7) (N := some 35) (v := ?_) (a' := ?_) #[true, true, true, true, true, true, false, true, false, false, false, false, false, false, false] rfl rfl (by kernel_rfl) (fun _ _ _ h => h) (Or.inl ⟨by rfl, ?_⟩) ?_ ?_
            rotate_left
            · intro w'
              go_simp
              with_reducible rfl
            rotate_left
            · simp only [Act.put, List.setIfInBounds_toArray, List.set_cons_zero, List.set_cons_succ, i64_w, i32_w]
              rfl
            refine pure_ (i := 8) (N := some 36) (v := ?_) (a' := ?_) #[true, true, true, true, true, true, false, true, true, false, false, false, false, false, false] rfl rfl (by kernel_rfl) (fun _ _ _ h => h) (Or.inl ⟨by rfl, ?_⟩) ?_ ?_
            rotate_left
            · intro w'
              go_simp
              with_reducible rfl
            rotate_left
            · simp only [Act.put, List.setIfInBounds_toArray, List.set_cons_zero, List.set_cons_succ, i64_w, i32_w]
              rfl
            refine pure_ (i := 9) (N := some 37) (v := ?_) (a' := ?_) #[true, true, true, true, true, true, false, true, true, true, false, false, false, false, false] rfl rfl (by kernel_rfl) (fun _ _ _ h => h) (Or.inl ⟨by rfl, ?_⟩) ?_ ?_
            rotate_left
            · intro w'
              go_simp
              with_reducible rfl
            rotate_left
            · simp only [Act.put, List.setIfInBounds_toArray, List.set_cons_zero, List.set_cons_succ, i64_w, i32_w]
              rfl
            refine pure_ (i := 10) (N := some 38) (v := ?_) (a' := ?_) #[true, true, true, true, true, true, false, true, true, true, true, false, false, false, false] rfl rfl (by kernel_rfl) (fun _ _ _ h => h) (Or.inl ⟨by rfl, ?_⟩) ?_ ?_
            rotate_left
            · intro w'
              go_simp
              with_reducible rfl
            rotate_left
            · simp only [Act.put, List.setIfInBounds_toArray, List.set_cons_zero, List.set_cons_succ, i64_w, i32_w]
              rfl
            refine take_ (i := 6) (N := some 34) (v := ?_) (a' := ?_) #[true, true, true, true, true, true, true, true, true, true, true, false, false, false, false] rfl rfl (by kernel_rfl) (fun _ _ _ h => h) (Or.inl ⟨by rfl, ?_⟩) hHeld ?_ ?_
            rotate_left
            · rintro w' ⟨s0, s1⟩
              go_simp
              with_reducible rfl
            rotate_left
            · simp only [Act.put, List.setIfInBounds_toArray, List.set_cons_zero, List.set_cons_succ, i64_w, i32_w]
              rfl
            refine take_ (i := 11) (N := some 39) (v := ?_) (a' := ?_) #[true, true, true, true, true, true, true, true, true, true, true, true, false, false, false] rfl rfl (by kernel_rfl) (fun _ _ _ h => h) (Or.inl ⟨by rfl, ?_⟩) hHeld ?_ ?_
            rotate_left
            · rintro w' ⟨s0, s1⟩
              go_simp
              with_reducible rfl
            rotate_left
            · simp only [Act.put, List.setIfInBounds_toArray, List.set_cons_zero, List.set_cons_succ, i64_w, i32_w]
              rfl
            refine pure_ (i := 12) (N := some 40) (v := ?_) (a' := ?_) #[true, true, true, true, true, true, true, true, true, true, true, true, true, false, false] rfl rfl (by kernel_rfl) (fun _ _ _ h => h) (Or.inl ⟨by rfl, ?_⟩) ?_ ?_
            rotate_left
            · intro w'
              go_simp
              with_reducible rfl
            rotate_left
            · simp only [Act.put, List.setIfInBounds_toArray, List.set_cons_zero, List.set_cons_succ, i64_w, i32_w]
              rfl
            refine pure_ (i := 13) (N := some 41) (v := ?_) (a' := ?_) #[true, true, true, true, true, true, true, true, true, true, true, true, true, true, false] rfl rfl (by kernel_rfl) (fun _ _ _ h => h) (Or.inl ⟨by rfl, ?_⟩) ?_ ?_
            rotate_left
            · intro w'
              go_simp
              with_reducible rfl
            rotate_left
            · simp only [Act.put, List.setIfInBounds_toArray, List.set_cons_zero, List.set_cons_succ, i64_w, i32_w]
              rfl
            refine pure_ (i := 14) (N := some 13) (v := ?_) (a' := ?_) #[true, true, true, true, true, true, true, true, true, true, true, true, true, true, true] rfl rfl (by kernel_rfl) (fun _ _ _ h => h) (Or.inl ⟨by rfl, ?_⟩) ?_ ?_
            rotate_left
            · intro w'
              go_simp
              with_reducible rfl
            rotate_left
            · simp only [Act.put, List.setIfInBounds_toArray, List.set_cons_zero, List.set_cons_succ, i64_w, i32_w]
              rfl
            refine done_ (by kernel_rfl) ?_
            go_wp2
            go_roundg (k - (q + 1))
            case measure => omega
            case rel => exact ⟨q + 1, by omega, by go_num, by rw [HANY.out]; first | rfl | (rw [← hne]; simp; done) | (rw [← hne]; simp [bne]; done), HOd, HBd, BKd, K0d⟩
          · go_wp2_with fail
            refine start_ (n := 15) (S := fun w' => w'.cell? ⟨b, f + k * 3, none⟩ = some (.string a.key)) (ds := []) #[false, false, false, false, false, false, false, false, false, false, false, false, false, false, false] (by kernel_rfl) rfl rfl (K0d.out) (fun hHeld => ?_)
            refine pure_ (i := 0) (N := some 28) (v := ?_) (a' := ?_) #[true, false, false, false, false, false, false, false, false, false, false, false, false, false, false] rfl rfl (by kernel_rfl) (fun _ _ _ h => h) (Or.inl ⟨by rfl, ?_⟩) ?_ ?_
            rotate_left
            · intro w'
              go_simp
              with_reducible rfl
            rotate_left
            · simp only [Act.put, List.setIfInBounds_toArray, List.set_cons_zero, List.set_cons_succ, i64_w, i32_w]
              rfl
            refine pure_ (i := 1) (N := some 29) (v := ?_) (a' := ?_) #[true, true, false, false, false, false, false, false, false, false, false, false, false, false, false] rfl rfl (by kernel_rfl) (fun _ _ _ h => h) (Or.inl ⟨by rfl, ?_⟩) ?_ ?_
            rotate_left
            · intro w'
              go_simp
              with_reducible rfl
            rotate_left
            · simp only [Act.put, List.setIfInBounds_toArray, List.set_cons_zero, List.set_cons_succ, i64_w, i32_w]
              rfl
            refine pure_ (i := 2) (N := some 30) (v := undef) (a' := ?_) #[true, true, true, false, false, false, false, false, false, false, false, false, false, false, false] rfl rfl (by kernel_rfl) (fun _ _ _ h => h) (Or.inr ⟨by rfl, rfl⟩) ?_ ?_
            rotate_left
            · simp only [Act.put, List.setIfInBounds_toArray, List.set_cons_zero, List.set_cons_succ, i64_w, i32_w]
              rfl
            refine pure_ (i := 3) (N := some 31) (v := undef) (a' := ?_) #[true, true, true, true, false, false, false, false, false, false, false, false, false, false, false] rfl rfl (by kernel_rfl) (fun _ _ _ h => h) (Or.inr ⟨by rfl, rfl⟩) ?_ ?_
            rotate_left
            · simp only [Act.put, List.setIfInBounds_toArray, List.set_cons_zero, List.set_cons_succ, i64_w, i32_w]
              rfl
            refine pure_ (i := 4) (N := some 32) (v := undef) (a' := ?_) #[true, true, true, true, true, false, false, false, false, false, false, false, false, false, false] rfl rfl (by kernel_rfl) (fun _ _ _ h => h) (Or.inr ⟨by rfl, rfl⟩) ?_ ?_
            rotate_left
            · simp only [Act.put, List.setIfInBounds_toArray, List.set_cons_zero, List.set_cons_succ, i64_w, i32_w]
              rfl
            refine pure_ (i := 5) (N := some 33) (v := undef) (a' := ?_) #[true, true, true, true, true, true, false, false, false, false, false, false, false, false, false] rfl rfl (by kernel_rfl) (fun _ _ _ h => h) (Or.inr ⟨by rfl, rfl⟩) ?_ ?_
            rotate_left
            · simp only [Act.put, List.setIfInBounds_toArray, List.set_cons_zero, List.set_cons_succ, i64_w, i32_w]
              rfl
            refine pure_ (i := 6) (N := some 34) (v := undef) (a' := ?_) #[true, true, true, true, true, true, true, false, false, false, false, false, false, false, false] rfl rfl (by kernel_rfl) (fun _ _ _ h => h) (Or.inr ⟨by rfl, rfl⟩) ?_ ?_
            rotate_left
            · simp only [Act.put, List.setIfInBounds_toArray, List.set_cons_zero, List.set_cons_succ, i64_w, i32_w]
              rfl
            refine pure_ (i := 7) (N := some 35) (v := undef) (a' := ?_) #[true, true, true, true, true, true, true, true, false, false, false, false, false, false, false] rfl rfl (by kernel_rfl) (fun _ _ _ h => h) (Or.inr ⟨by rfl, rfl⟩) ?_ ?_
            rotate_left
            · simp only [Act.put, List.setIfInBounds_toArray, List.set_cons_zero, List.set_cons_succ, i64_w, i32_w]
              rfl
            refine pure_ (i := 8) (N := some 36) (v := undef) (a' := ?_) #[true, true, true, true, true, true, true, true, true, false, false, false, false, false, false] rfl rfl (by kernel_rfl) (fun _ _ _ h => h) (Or.inr ⟨by rfl, rfl⟩) ?_ ?_
            rotate_left
            · simp only [Act.put, List.setIfInBounds_toArray, List.set_cons_zero, List.set_cons_succ, i64_w, i32_w]
              rfl
            refine pure_ (i := 9) (N := some 37) (v := undef) (a' := ?_) #[true, true, true, true, true, true, true, true, true, true, false, false, false, false, false] rfl rfl (by kernel_rfl) (fun _ _ _ h => h) (Or.inr ⟨by rfl, rfl⟩) ?_ ?_
            rotate_left
            · simp only [Act.put, List.setIfInBounds_toArray, List.set_cons_zero, List.set_cons_succ, i64_w, i32_w]
              rfl
            refine pure_ (i := 10) (N := some 38) (v := undef) (a' := ?_) #[true, true, true, true, true, true, true, true, true, true, true, false, false, false, false] rfl rfl (by kernel_rfl) (fun _ _ _ h => h) (Or.inr ⟨by rfl, rfl⟩) ?_ ?_
            rotate_left
            · simp only [Act.put, List.setIfInBounds_toArray, List.set_cons_zero, List.set_cons_succ, i64_w, i32_w]
              rfl
            refine pure_ (i := 11) (N := some 39) (v := undef) (a' := ?_) #[true, true, true, true, true, true, true, true, true, true, true, true, false, false, false] rfl rfl (by kernel_rfl) (fun _ _ _ h => h) (Or.inr ⟨by rfl, rfl⟩) ?_ ?_
            rotate_left
            · simp only [Act.put, List.setIfInBounds_toArray, List.set_cons_zero, List.set_cons_succ, i64_w, i32_w]
              rfl
            refine pure_ (i := 12) (N := some 40) (v := undef) (a' := ?_) #[true, true, true, true, true, true, true, true, true, true, true, true, true, false, false] rfl rfl (by kernel_rfl) (fun _ _ _ h => h) (Or.inr ⟨by rfl, rfl⟩) ?_ ?_
            rotate_left
            · simp only [Act.put, List.setIfInBounds_toArray, List.set_cons_zero, List.set_cons_succ, i64_w, i32_w]
              rfl
            refine pure_ (i := 13) (N := some 41) (v := ?_) (a' := ?_) #[true, true, true, true, true, true, true, true, true, true, true, true, true, true, false] rfl rfl (by kernel_rfl) (fun _ _ _ h => h) (Or.inl ⟨by rfl, ?_⟩) ?_ ?_
            rotate_left
            · intro w'
              go_simp
              with_reducible rfl
            rotate_left
            · simp only [Act.put, List.setIfInBounds_toArray, List.set_cons_zero, List.set_cons_succ, i64_w, i32_w]
              rfl
            refine pure_ (i := 14) (N := some 13) (v := ?_) (a' := ?_) #[true, true, true, true, true, true, true, true, true, true, true, true, true, true, true] rfl rfl (by kernel_rfl) (fun _ _ _ h => h) (Or.inl ⟨by rfl, ?_⟩) ?_ ?_
            rotate_left
            · intro w'
              go_simp
              with_reducible rfl
            rotate_left
            · simp only [Act.put, List.setIfInBounds_toArray, List.set_cons_zero, List.set_cons_succ, i64_w, i32_w]
              rfl
            refine done_ (by kernel_rfl) ?_
            go_wp2
            go_roundg (k - (q + 1))
            case measure => omega
            case rel => exact ⟨q + 1, by omega, by go_num, by rw [HANY.out]; first | rfl | (rw [← hne]; simp; done) | (rw [← hne]; simp [bne]; done), HOd, HBd, BKd, K0d⟩
        · obtain rfl : q = k := by omega
          have HLr := Lib.hid (HL.out.below HB.out)
          have HLd : Hid (AddsAt wr.drew l (.slice (some ⟨b, f, none⟩) l.length scap)) := HLr.out.below (Below.refl _ _).drew
          have K0d : Hid (wr.drew.cell? ⟨b, f + q * 3, none⟩ = some (.string a.key)) := K0.out
          have HOd : Hid (CK.RowK encC 2 wr.drew (refTop [] g (l.take q) []) u11) := HO.out.below (Below.refl _ _).drew
          have HBd : Hid (Below w.heap.size w wr.drew) := HB.out.drew
          have BKd : Hid (wr.drew.heap[w.heap.size]? = some (.cells #[.int .i64 sz, .int .i64 hp] 44 (0, 0))) := BK.out
          have hbl : b < wr.heap.size := Nat.lt_of_lt_of_le hb1 HB.out.size
          have HBL : Hid (b < wr.drew.heap.size) := hbl
          obtain ⟨G, hG⟩ : ∃ G, g a.key = G := ⟨_, rfl⟩
          have HGV := Lib.hid hG
          clear hG
          go_wp2_with fail
          clear HO HB BK K0
          have HO := HOd
          have HB := HBd
          have BK := BKd
          have K0 := K0d
          refine start_ (n := 11) (S := fun w' => w'.cell? ⟨w.heap.size, 0, none⟩ = some (.int .i64 sz) ∧ w'.cell? ⟨w.heap.size, 1, none⟩ = some (.int .i64 hp) ∧ w'.cell? ⟨b, f + q * 3, none⟩ = some (.string a.key)) (ds := []) #[false, false, false, false, false, false, false, false, false, false, false] (by kernel_rfl) rfl rfl ⟨(blk_cell BK.out 0), (blk_cell BK.out 1), K0.out⟩ (fun hHeld => ?_)
          refine pure_ (i := 0) (N := some 42) (v := ?_) (a' := ?_) #[true, false, false, false, false, false, false, false, false, false, false] rfl rfl (by kernel_rfl) (fun _ _ _ h => h) (Or.inl ⟨by rfl, ?_⟩) ?_ ?_
          rotate_left
          · intro w'
            go_simp
            with_reducible rfl
          rotate_left
          · simp only [Act.put, List.setIfInBounds_toArray, List.set_cons_zero, List.set_cons_succ, i64_w, i32_w]
            rfl
          refine pure_ (i := 2) (N := some 44) (v := ?_) (a' := ?_) #[true, false, true, false, false, false, false, false, false, false, false] rfl rfl (by kernel_rfl) (fun _ _ _ h => h) (Or.inl ⟨by rfl, ?_⟩) ?_ ?_
          rotate_left
          · intro w'
            go_simp
            with_reducible rfl
          rotate_left
          · simp only [Act.put, List.setIfInBounds_toArray, List.set_cons_zero, List.set_cons_succ, i64_w, i32_w]
            rfl
          refine pure_ (i := 3) (N := some 45) (v := ?_) (a' := ?_) #[true, false, true, true, false, false, false, false, false, false, false] rfl rfl (by kernel_rfl) (fun _ _ _ h => h) (Or.inl ⟨by rfl, ?_⟩) ?_ ?_
          rotate_left
          · intro w'
            go_simp
            with_reducible rfl
          rotate_left
          · simp only [Act.put, List.setIfInBounds_toArray, List.set_cons_zero, List.set_cons_succ, i64_w, i32_w]
            rfl
          refine pure_ (i := 4) (N := some 46) (v := ?_) (a' := ?_) #[true, false, true, true, true, false, false, false, false, false, false] rfl rfl (by kernel_rfl) (fun _ _ _ h => h) (Or.inl ⟨by rfl, ?_⟩) ?_ ?_
          rotate_left
          · intro w'
            go_simp
            with_reducible rfl
          rotate_left
          · simp only [Act.put, List.setIfInBounds_toArray, List.set_cons_zero, List.set_cons_succ, i64_w, i32_w]
            rfl
          refine pure_ (i := 5) (N := some 47) (v := ?_) (a' := ?_) #[true, false, true, true, true, true, false, false, false, false, false] rfl rfl (by kernel_rfl) (fun _ _ _ h => h) (Or.inl ⟨by rfl, ?_⟩) ?_ ?_
          rotate_left
          · intro w'
            go_simp
            with_reducible rfl
          rotate_left
          · simp only [Act.put, List.setIfInBounds_toArray, List.set_cons_zero, List.set_cons_succ, i64_w, i32_w]
            rfl
          refine pure_ (i := 6) (N := some 48) (v := ?_) (a' := ?_) #[true, false, true, true, true, true, true, false, false, false, false] rfl rfl (by kernel_rfl) (fun _ _ _ h => h) (Or.inl ⟨by rfl, ?_⟩) ?_ ?_
          rotate_left
          · intro w'
            go_simp
            with_reducible rfl
          rotate_left
          · simp only [Act.put, List.setIfInBounds_toArray, List.set_cons_zero, List.set_cons_succ, i64_w, i32_w]
            rfl
          refine pure_ (i := 8) (N := some 50) (v := ?_) (a' := ?_) #[true, false, true, true, true, true, true, false, true, false, false] rfl rfl (by kernel_rfl) (fun _ _ _ h => h) (Or.inl ⟨by rfl, ?_⟩) ?_ ?_
          rotate_left
          · intro w'
            go_simp
            with_reducible rfl
          rotate_left
          · simp only [Act.put, List.setIfInBounds_toArray, List.set_cons_zero, List.set_cons_succ, i64_w, i32_w]
            rfl
          refine take_ (i := 1) (N := some 43) (v := ?_) (a' := ?_) #[true, true, true, true, true, true, true, false, true, false, false] rfl rfl (by kernel_rfl) (fun _ _ _ h => h) (Or.inl ⟨by rfl, ?_⟩) hHeld ?_ ?_
          rotate_left
          · rintro w' ⟨s0, s1, s2⟩
            go_simp
            with_reducible rfl
          rotate_left
          · simp only [Act.put, List.setIfInBounds_toArray, List.set_cons_zero, List.set_cons_succ, i64_w, i32_w]
            rfl
          refine take_ (i := 7) (N := some 49) (v := ?_) (a' := ?_) #[true, true, true, true, true, true, true, true, true, false, false] rfl rfl (by kernel_rfl) (fun _ _ _ h => h) (Or.inl ⟨by rfl, ?_⟩) hHeld ?_ ?_
          rotate_left
          · rintro w' ⟨s0, s1, s2⟩
            go_simp
            with_reducible rfl
          rotate_left
          · simp only [Act.put, List.setIfInBounds_toArray, List.set_cons_zero, List.set_cons_succ, i64_w, i32_w]
            rfl
          refine one_ (i := 9) (N := some 51) #[true, true, true, true, true, true, true, true, true, true, false] rfl rfl (by kernel_rfl) (by decide) (fun K hK => ?_)
          refine goes_ Try.func58 (by kernel_rfl) rfl #[.slice (some ⟨b, f, none⟩) l.length scap, .agg #[.int .i64 sz, .int .i64 hp], .int .i64 wd, .string a.key, .int .i64 e] (by rfl) rfl rfl (by (try simp only [List.map_toArray, List.map_cons, List.map_nil]); first | done | rfl) ?_
          with_reducible refine (rat_calls _ l _ sz hp wd e a.key HLd.out hl).mono ?_
          rintro e' w3 ⟨rfl, hb⟩
          refine ⟨_, rfl, ?_⟩
          rw [HG.out, HGV.out]
          have HO := Lib.hid (HO.out.below hb)
          have K0 := Lib.hid ((hb.cell (p := ⟨b, f + q * 3, none⟩) HBL.out).trans K0.out)
          have HB := Lib.hid (HB.out.trans ((show Below _ _ _ from hb).mono HB.out.size))
          have BK := Lib.hid (blk_below BK.out hb (blk_lt BK.out))
          clear hb
          refine hK.out _ _ ⟨(blk_cell BK.out 0), (blk_cell BK.out 1), K0.out⟩ (fun hHeld => ?_)
          clear hK K
          refine norm_ (a' := ?_) ?_ ?_
          rotate_left
          · show Act.put _ (some 51) _ = _
            simp only [Act.put, List.setIfInBounds_toArray, List.set_cons_zero, List.set_cons_succ, i64_w, i32_w]
            rfl
          refine pure_ (i := 10) (N := some 15) (v := ?_) (a' := ?_) #[true, true, true, true, true, true, true, true, true, true, true] rfl rfl (by kernel_rfl) (fun _ _ _ h => h) (Or.inl ⟨by rfl, ?_⟩) ?_ ?_
          rotate_left
          · intro w'
            go_simp
            with_reducible rfl
          rotate_left
          · simp only [Act.put, List.setIfInBounds_toArray, List.set_cons_zero, List.set_cons_succ, i64_w, i32_w]
            rfl
          refine done_ (by kernel_rfl) ?_
          have HSN := Lib.hid (refTop_snoc g (l.take q) a [] [])
          clear hHeld
          cases D
          · by_cases hpos : 0 < G
            · have hpb : decide (0 < G) = true := by simpa using hpos
              have k0 := K0.out
              obtain ⟨uo, uc, rfl, _⟩ := SliceR.shape HO.out
              have hrl : (refTop [] g (l.take q) []).length ≤ 1000000 := by
                have h1 := refTop_len g (l.take q) [] []
                have h2 := List.length_take_le q l
                simp at h1; omega
              go_wp2_with fail
              refine (put_calls _ _ _ (a.key, G) HO.out hrl).mono ?_
              rintro e' w4 ⟨v4, rfl, hr, hb⟩
              have HO := Lib.hid hr
              have BK := Lib.hid (blk_below BK.out hb (blk_lt BK.out))
              have HB := Lib.hid (HB.out.trans ((show Below _ _ _ from hb).mono HB.out.size))
              clear hr hb k0
              go_wp2
              go_roundg (l.length - (q + 1))
              case measure => omega
              case rel =>
                refine ⟨q + 1, by omega, by go_num, ?_, HB, BK⟩
                show CK.RowK _ _ _ _ _
                rw [HTK.out, HSN.out, List.nil_append, ← HD.out, HGV.out, if_pos (by simp [hpos])]
                exact HO.out
            · have hpb : decide (0 < G) = false := by simpa using hpos
              go_wp2
              go_roundg (l.length - (q + 1))
              case measure => omega
              case rel =>
                refine ⟨q + 1, by omega, by go_num, ?_, HB, BK⟩
                show CK.RowK _ _ _ _ _
                rw [HTK.out, HSN.out, List.nil_append, ← HD.out, HGV.out, if_neg (by simp; omega)]
                exact HO.out
          · go_wp2
            go_roundg (l.length - (q + 1))
            case measure => omega
            case rel =>
              refine ⟨q + 1, by omega, by go_num, ?_, HB, BK⟩
              show CK.RowK _ _ _ _ _
              rw [HTK.out, HSN.out, List.nil_append, ← HD.out, if_neg (by simp)]
              exact HO.out
    · obtain rfl : k = l.length := by omega
      obtain ⟨o, c, rfl, _⟩ := SliceR.shape HO.out
      rw [List.take_length] at HO
      go_wp2_with fail
      rw [List.take_length]
      refine (first_calls _ _ _ n HO.out).mono ?_
      rintro e' w3 ⟨v3, rfl, hr, hb⟩
      have HR := Lib.hid hr
      have HB3 := Lib.hid (HB.out.trans ((show Below _ _ _ from hb).mono HB.out.size))
      clear hr hb
      go_wp2
      go_ret
      exact ⟨v3, rfl, HR.out, HB3.out⟩
end Go.Proofs.Ytmddlbgdmdepdaa
