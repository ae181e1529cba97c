/- TopPanes: the law's function returns true, by a walk. No condition. -/
import Derived.Test.YtgmbbjkkmgooiaaTopB
set_option linter.unusedVariables false
set_option linter.unusedSimpArgs false
namespace Go.Proofs.Ytgmbbjkkmgooiaa
open Go.Maps Go.MapKept Go.RowKit Go.ChangeMaps CK Go.Proofs.YtgmbbjkkmgooiaaW.PrintLast

theorem rsum_bd (l : List Add) (key : ByteArray) (f e : Int) : 0 ≤ rangeSum l key f e ∧ rangeSum l key f e ≤ l.length * 1048576 := by
  have := atSum_bd l (e - f) e key
  rw [atSum_range] at this
  rwa [show e - (e - f) = f by omega] at this
set_option maxRecDepth 100000 in
set_option maxHeartbeats 2000000 in
theorem law_panes (l : List TAdd) (v : Value) (n s1 h1 : Int) (key : ByteArray) (en : Int) (w : World) (hl : TAddsAt w l v) (h0 : (Lit.int .u8 n).wf = true) (h00 : (Lit.int .u8 s1).wf = true) (h01 : (Lit.int .u8 h1).wf = true) (hk : key.size ≤ 140737488351232) (h02 : (Lit.int .u16 en).wf = true) :
    Calls Try.prog 9 #[v, .int .u8 n, .int .u8 s1, .int .u8 h1, .string key, .int .u16 en] w (BoolPost w true) := by
  have n1 := bounds_u8 h0
  have n2 := bounds_u8 h00
  have n3 := bounds_u8 h01
  have n4 := bounds_u16 h02
  clear h0 h00 h01 h02
  have HL := Lib.hid hl
  have HB := Lib.hid (Below.refl w.heap.size w)
  clear hl
  cases hf : fewB l
  case false =>
    have HF := Lib.hid hf
    clear hf
    go_enter Try.func9, Try.ntmps9
    go_wp2_with fail
    refine (counts_calls _).mono ?_
    rintro e' w1 ⟨rfl, hb⟩
    have HL := Lib.hid (HL.out.below hb)
    have HB := Lib.hid (HB.out.trans ((show Below _ _ _ from hb).mono HB.out.size))
    skip
    clear hb
    go_wp2_with fail
    refine (few_calls _ l _ HL.out).mono ?_
    rintro e' w2 ⟨rfl, hb⟩
    rw [HF.out]
    have HL := Lib.hid (HL.out.below hb)
    have HB := Lib.hid (HB.out.trans ((show Below _ _ _ from hb).mono HB.out.size))
    skip
    clear hb
    go_wp2_with fail
    refine (counts_calls _).mono ?_
    rintro e' w9 ⟨rfl, hb⟩
    have HB := Lib.hid (HB.out.trans ((show Below _ _ _ from hb).mono HB.out.size))
    skip
    clear hb
    go_wp2
    go_ret
    exact ⟨rfl, HB.out⟩
  have hf' := hf
  simp only [fewB, Bool.and_eq_true, decide_eq_true_eq, List.all_eq_true] at hf'
  obtain ⟨hf1, hlen⟩ := hf'
  have HF1 := Lib.hid hf1
  have HFS := Lib.hid hf1
  have HF := Lib.hid hf
  clear hf hf1
  by_cases hks : 24 < key.size
  · skip
    go_enter Try.func9, Try.ntmps9
    go_wp2_with fail
    refine (counts_calls _).mono ?_
    rintro e' w1 ⟨rfl, hb⟩
    have HL := Lib.hid (HL.out.below hb)
    have HB := Lib.hid (HB.out.trans ((show Below _ _ _ from hb).mono HB.out.size))
    skip
    clear hb
    go_wp2_with fail
    refine (few_calls _ l _ HL.out).mono ?_
    rintro e' w2 ⟨rfl, hb⟩
    rw [HF.out]
    have HL := Lib.hid (HL.out.below hb)
    have HB := Lib.hid (HB.out.trans ((show Below _ _ _ from hb).mono HB.out.size))
    skip
    clear hb
    go_wp2_with fail
    refine (counts_calls _).mono ?_
    rintro e' w9 ⟨rfl, hb⟩
    have HB := Lib.hid (HB.out.trans ((show Below _ _ _ from hb).mono HB.out.size))
    skip
    clear hb
    go_wp2
    go_ret
    exact ⟨rfl, HB.out⟩
  obtain ⟨W, hW⟩ : ∃ W, 1 + n % 20 = W := ⟨_, rfl⟩
  obtain ⟨A, hA⟩ : ∃ W, 1 + s1 % 6 = W := ⟨_, rfl⟩
  obtain ⟨B, hB⟩ : ∃ W, 1 + h1 % 6 = W := ⟨_, rfl⟩
  have W1 : 1 ≤ W ∧ W ≤ 20 := by omega
  have A1 : 1 ≤ A ∧ A ≤ 6 := by omega
  have B1 : 1 ≤ B ∧ B ≤ 6 := by omega
  obtain ⟨sz, hsz⟩ : ∃ sz, W * A = sz := ⟨_, rfl⟩
  obtain ⟨hp, hhp⟩ : ∃ sz, W * B = sz := ⟨_, rfl⟩
  have sz1 : 1 ≤ sz := by rw [← hsz]; exact Int.le_trans W1.1 (Int.le_mul_of_pos_right' W A W1.1 A1.1)
  have sz2 : sz ≤ 120 := by rw [← hsz]; exact Int.mul_le_mul (a := W) (b := A) (c := 20) (d := 6) W1.2 A1.2 (by omega) (by omega)
  have hp1 : 1 ≤ hp := by rw [← hhp]; exact Int.le_trans W1.1 (Int.le_mul_of_pos_right' W B W1.1 B1.1)
  have hp2 : hp ≤ 120 := by rw [← hhp]; exact Int.mul_le_mul (a := W) (b := B) (c := 20) (d := 6) W1.2 B1.2 (by omega) (by omega)
  have m1 : sz % W = 0 := by rw [← hsz, Int.mul_emod_right]
  have m2 : hp % W = 0 := by rw [← hhp, Int.mul_emod_right]
  have hws : wrap64 (W * A) = sz := by rw [hsz]; unfold wrap64; omega
  have hwh : wrap64 (W * B) = hp := by rw [hhp]; unfold wrap64; omega
  have e2 : (sz - 1) / hp < 120 := by rw [Int.ediv_lt_iff_lt_mul (by omega)]; have := Int.le_mul_of_pos_right' 120 hp (by omega) hp1; omega
  have HM : Hid (mayB sz hp W = true) := by show _ = _; simp [mayB, fitsB, m1, m2]; omega
  have HM1 : Hid (mayB sz hp 1 = true) := by show _ = _; simp [mayB, fitsB]; omega
  clear e2 m1 m2 hsz hhp
  obtain ⟨E, hE⟩ : ∃ E, E = en / hp * hp := ⟨_, rfl⟩
  have E0 : 0 ≤ E := by rw [hE]; exact Int.mul_nonneg (Int.ediv_nonneg (by omega) (by omega)) (by omega)
  have E1 : E ≤ 65535 := by have := Int.ediv_mul_le en (b := hp) (by omega); omega
  have HEM : Hid (E % hp = 0) := by show _ = _; rw [hE, Int.mul_emod_left]
  have hEw : wrap64 (en / hp * hp) = E := by rw [← hE]; unfold wrap64; omega
  clear hE
  go_enter Try.func9, Try.ntmps9
  go_wp2_with fail
  refine (counts_calls _).mono ?_
  rintro e' w1 ⟨rfl, hb⟩
  have HL := Lib.hid (HL.out.below hb)
  have HB := Lib.hid (HB.out.trans ((show Below _ _ _ from hb).mono HB.out.size))
  skip
  clear hb
  go_wp2_with fail
  refine (few_calls _ l _ HL.out).mono ?_
  rintro e' w2 ⟨rfl, hb⟩
  rw [HF.out]
  have HL := Lib.hid (HL.out.below hb)
  have HB := Lib.hid (HB.out.trans ((show Below _ _ _ from hb).mono HB.out.size))
  skip
  clear hb
  go_wp2_with fail
  have BK : Hid ((w2.alloc (.cells #[.int .i64 sz, .int .i64 hp] 23)).heap[w2.heap.size]? = some (.cells #[.int .i64 sz, .int .i64 hp] 23 (0, 0))) := blk_new w2 _
  have HLn : Hid (TAddsAt (w2.alloc (.cells #[.int .i64 sz, .int .i64 hp] 23)) l v) := HL.out.below ((Below.refl _ w2).alloc (Nat.le_refl _) _)
  have HBn : Hid (Below w.heap.size w (w2.alloc (.cells #[.int .i64 sz, .int .i64 hp] 23))) := HB.out.alloc HB.out.size _
  have HL := HLn
  have HB := HBn
  refine (may_calls _ _ _ _).mono ?_
  rintro e' w3 ⟨rfl, hb⟩
  rw [HM.out]
  have HL := Lib.hid (HL.out.below hb)
  have BK := Lib.hid (blk_below BK.out hb (blk_lt BK.out))
  have HB := Lib.hid (HB.out.trans ((show Below _ _ _ from hb).mono HB.out.size))
  skip
  clear hb
  go_wp2_with fail
  refine (new_calls _ _).mono ?_
  rintro e' w4 ⟨p1, b1, rfl, hp1', hg1, hg2, hb⟩
  rw [show min (max W 1) 1099511627776 = W by omega] at hp1'
  have P1 := Lib.hid hp1'
  have HG1 : Hid (w2.heap.size < p1 ∧ w2.heap.size < b1 ∧ w.heap.size ≤ p1 ∧ w.heap.size ≤ b1) := ⟨Nat.lt_of_lt_of_le (blk_lt BK.out) hg1, Nat.lt_of_lt_of_le (blk_lt BK.out) hg2, Nat.le_trans HB.out.size hg1, Nat.le_trans HB.out.size hg2⟩
  have HL := Lib.hid (HL.out.below hb)
  have BK := Lib.hid (blk_below BK.out hb (blk_lt BK.out))
  clear hg1 hg2 hp1'
  have HB := Lib.hid (HB.out.trans ((show Below _ _ _ from hb).mono HB.out.size))
  skip
  clear hb
  go_wp2_with fail
  refine (new_calls _ _).mono ?_
  rintro e' w5 ⟨p2, b2, rfl, hp1', hg1, hg2, hb⟩
  rw [show min (max W 1) 1099511627776 = W by omega] at hp1'
  have P2 := Lib.hid hp1'
  have HG2 : Hid (w2.heap.size < p2 ∧ w2.heap.size < b2 ∧ w.heap.size ≤ p2 ∧ w.heap.size ≤ b2 ∧ p1 < p2 ∧ p1 < b2 ∧ b1 < p2 ∧ b1 < b2) := ⟨Nat.lt_of_lt_of_le (blk_lt BK.out) hg1, Nat.lt_of_lt_of_le (blk_lt BK.out) hg2, Nat.le_trans HB.out.size hg1, Nat.le_trans HB.out.size hg2, Nat.lt_of_lt_of_le (blk_lt P1.out.blk) hg1, Nat.lt_of_lt_of_le (blk_lt P1.out.blk) hg2, Nat.lt_of_lt_of_le P1.out.map.lt hg1, Nat.lt_of_lt_of_le P1.out.map.lt hg2⟩
  have HL := Lib.hid (HL.out.below hb)
  have P1 := Lib.hid (P1.out.below hb)
  have BK := Lib.hid (blk_below BK.out hb (blk_lt BK.out))
  clear hg1 hg2 hp1'
  have HB := Lib.hid (HB.out.trans ((show Below _ _ _ from hb).mono HB.out.size))
  skip
  clear hb
  obtain ⟨so, scap, rfl, hmx⟩ := SliceR.shape HL.out
  obtain ⟨L, hL⟩ : ∃ L, L = l.map TAdd.add := ⟨_, rfl⟩
  have HLL := Lib.hid hL
  have hLl : L.length = l.length := by rw [hL, List.length_map]
  have HLG := Lib.hid hLl
  have HLw : Hid (TAddsAt w l (.slice so l.length scap)) := by assumption
  clear hL hLl
  go_wp2
  go_loopg [66] l.length (fun m i wr => ∃ k : Nat, k + m = l.length ∧ i = .int .i64 k ∧ Hid (Below w.heap.size w wr) ∧ Hid (wr.heap[w2.heap.size]? = some (.cells #[.int .i64 sz, .int .i64 hp] 23 (0, 0))) ∧ Hid (PanesAt wr p1 W (cntOf (L.take k)) b1 (sumsOf W (L.take k))) ∧ Hid (PanesAt wr p2 W (cntOf (L.reverse.take k)) b2 (sumsOf W (L.reverse.take k))) ∧ Hid (∀ i (h : i < l.length), i < k → rightB l[i].add = true))
  case atStart => exact ⟨0, by omega, rfl, HB, BK, P1, P2, fun i hi h => by omega⟩
  case round =>
    clear HB BK P1 P2 HL
    obtain ⟨k, hkm, rfl, HB, BK, P1, P2, HR⟩ := hrel
    by_cases hkn : k < l.length
    · obtain ⟨b, off, cap, heq, hblt, hok, e0, e1, e2⟩ := tadds_cell HLw.out hkn
      cases heq
      obtain ⟨a, ha⟩ : ∃ a, a = l[k] := ⟨_, rfl⟩
      rw [← ha] at e0 e1 e2 hok
      have hbd := TAdd.bd hok
      have hks' : a.key.size ≤ 24 := HF1.out a (by rw [ha]; exact List.getElem_mem _)
      have HTK : Hid (L.take (k + 1) = L.take k ++ [a.add]) := by
        have : L[k]'(by rw [HLG.out]; exact hkn) = a.add := by simp only [HLL.out, List.getElem_map, ha]
        rw [← this]; exact List.take_succ_eq_append_getElem (by rw [HLG.out]; exact hkn)
      have K0 := Lib.hid ((HB.out.cell (p := ⟨b, off + k * 3, none⟩) hblt).trans e0)
      have K1 := Lib.hid ((HB.out.cell (p := ⟨b, off + k * 3 + 1, none⟩) hblt).trans e1)
      have K2 := Lib.hid ((HB.out.cell (p := ⟨b, off + k * 3 + 2, none⟩) hblt).trans e2)
      have HBL : Hid (b < w.heap.size) := hblt
      have HA := Lib.hid ha
      obtain ⟨hb1, hb2, hb3, hb4⟩ := hbd
      clear e0 e1 e2 ha
      by_cases hz : a.key.size = 0
      · have hzb : (a.key.toList == ([] : List UInt8)) = true := by
          have : a.key = ByteArray.mk #[] := ByteArray.ext (Array.eq_empty_of_size_eq_zero hz)
          rw [this]; decide +kernel
        have HBd : Hid (Below w.heap.size w wr.drew) := HB.out.drew
        have K0d : Hid (wr.drew.cell? ⟨b, off + k * 3, none⟩ = some (.string a.key)) := K0.out
        go_wp2_with fail
        refine start_ (n := 28) (S := fun w' => w'.cell? ⟨b, off + k * 3, none⟩ = some (.string a.key)) (ds := []) #[false, false, false, false, false, false, false, false, false, false, false, false, false, false, false, false, false, false, false, false, false, false, false, false, false, false, false, false] (by kernel_rfl) rfl rfl (K0d.out) (fun hHeld => ?_)
        refine pure_ (i := 0) (N := some 69) (v := ?_) (a' := ?_) #[true, false, false, false, false, false, false, false, false, false, false, false, false, false, false, false, false, false, false, false, false, false, false, false, false, false, false, false] rfl rfl (by kernel_rfl) (fun _ _ _ h => h) (Or.inl ⟨by rfl, ?_⟩) ?_ ?_
        rotate_left
        · intro w'
          go_simp
          with_reducible rfl
        rotate_left
        · simp only [Act.put, List.setIfInBounds_toArray, List.set_cons_zero, List.set_cons_succ, i64_w, i32_w]
          rfl
        refine pure_ (i := 1) (N := some 70) (v := ?_) (a' := ?_) #[true, true, false, false, false, false, false, false, false, false, false, false, false, false, false, false, false, false, false, false, false, false, false, false, false, false, false, false] rfl rfl (by kernel_rfl) (fun _ _ _ h => h) (Or.inl ⟨by rfl, ?_⟩) ?_ ?_
        rotate_left
        · intro w'
          go_simp
          with_reducible rfl
        rotate_left
        · simp only [Act.put, List.setIfInBounds_toArray, List.set_cons_zero, List.set_cons_succ, i64_w, i32_w]
          rfl
        refine pure_ (i := 2) (N := some 71) (v := ?_) (a' := ?_) #[true, true, true, false, false, false, false, false, false, false, false, false, false, false, false, false, false, false, false, false, false, false, false, false, false, false, false, false] rfl rfl (by kernel_rfl) (fun _ _ _ h => h) (Or.inl ⟨by rfl, ?_⟩) ?_ ?_
        rotate_left
        · intro w'
          go_simp
          with_reducible rfl
        rotate_left
        · simp only [Act.put, List.setIfInBounds_toArray, List.set_cons_zero, List.set_cons_succ, i64_w, i32_w]
          rfl
        refine pure_ (i := 3) (N := some 72) (v := ?_) (a' := ?_) #[true, true, true, true, false, false, false, false, false, false, false, false, false, false, false, false, false, false, false, false, false, false, false, false, false, false, false, false] rfl rfl (by kernel_rfl) (fun _ _ _ h => h) (Or.inl ⟨by rfl, ?_⟩) ?_ ?_
        rotate_left
        · intro w'
          go_simp
          with_reducible rfl
        rotate_left
        · simp only [Act.put, List.setIfInBounds_toArray, List.set_cons_zero, List.set_cons_succ, i64_w, i32_w]
          rfl
        refine take_ (i := 4) (N := some 73) (v := ?_) (a' := ?_) #[true, true, true, true, true, false, false, false, false, false, false, false, false, false, false, false, false, false, false, false, false, false, false, false, false, false, false, false] rfl rfl (by kernel_rfl) (fun _ _ _ h => h) (Or.inl ⟨by rfl, ?_⟩) hHeld ?_ ?_
        rotate_left
        · intro w' s0
          go_simp
          with_reducible rfl
        rotate_left
        · simp only [Act.put, List.setIfInBounds_toArray, List.set_cons_zero, List.set_cons_succ, i64_w, i32_w]
          rfl
        refine pure_ (i := 5) (N := some 74) (v := ?_) (a' := ?_) #[true, true, true, true, true, true, false, false, false, false, false, false, false, false, false, false, false, false, false, false, false, false, false, false, false, false, false, false] rfl rfl (by kernel_rfl) (fun _ _ _ h => h) (Or.inl ⟨by rfl, ?_⟩) ?_ ?_
        rotate_left
        · intro w'
          go_simp
          with_reducible rfl
        rotate_left
        · simp only [Act.put, List.setIfInBounds_toArray, List.set_cons_zero, List.set_cons_succ, i64_w, i32_w]
          rfl
        refine pure_ (i := 6) (N := some 75) (v := ?_) (a' := ?_) #[true, true, true, true, true, true, true, false, false, false, false, false, false, false, false, false, false, false, false, false, false, false, false, false, false, false, false, false] rfl rfl (by kernel_rfl) (fun _ _ _ h => h) (Or.inl ⟨by rfl, ?_⟩) ?_ ?_
        rotate_left
        · intro w'
          go_simp
          with_reducible rfl
        rotate_left
        · simp only [Act.put, List.setIfInBounds_toArray, List.set_cons_zero, List.set_cons_succ, i64_w, i32_w]
          rfl
        refine pure_ (i := 7) (N := some 76) (v := undef) (a' := ?_) #[true, true, true, true, true, true, true, true, false, false, false, false, false, false, false, false, false, false, false, false, false, false, false, false, false, false, false, false] rfl rfl (by kernel_rfl) (fun _ _ _ h => h) (Or.inr ⟨by rfl, rfl⟩) ?_ ?_
        rotate_left
        · simp only [Act.put, List.setIfInBounds_toArray, List.set_cons_zero, List.set_cons_succ, i64_w, i32_w]
          rfl
        refine pure_ (i := 8) (N := some 77) (v := undef) (a' := ?_) #[true, true, true, true, true, true, true, true, true, false, false, false, false, false, false, false, false, false, false, false, false, false, false, false, false, false, false, false] rfl rfl (by kernel_rfl) (fun _ _ _ h => h) (Or.inr ⟨by rfl, rfl⟩) ?_ ?_
        rotate_left
        · simp only [Act.put, List.setIfInBounds_toArray, List.set_cons_zero, List.set_cons_succ, i64_w, i32_w]
          rfl
        refine pure_ (i := 9) (N := some 78) (v := undef) (a' := ?_) #[true, true, true, true, true, true, true, true, true, true, false, false, false, false, false, false, false, false, false, false, false, false, false, false, false, false, false, false] rfl rfl (by kernel_rfl) (fun _ _ _ h => h) (Or.inr ⟨by rfl, rfl⟩) ?_ ?_
        rotate_left
        · simp only [Act.put, List.setIfInBounds_toArray, List.set_cons_zero, List.set_cons_succ, i64_w, i32_w]
          rfl
        refine pure_ (i := 10) (N := some 79) (v := undef) (a' := ?_) #[true, true, true, true, true, true, true, true, true, true, true, false, false, false, false, false, false, false, false, false, false, false, false, false, false, false, false, false] rfl rfl (by kernel_rfl) (fun _ _ _ h => h) (Or.inr ⟨by rfl, rfl⟩) ?_ ?_
        rotate_left
        · simp only [Act.put, List.setIfInBounds_toArray, List.set_cons_zero, List.set_cons_succ, i64_w, i32_w]
          rfl
        refine pure_ (i := 11) (N := some 80) (v := undef) (a' := ?_) #[true, true, true, true, true, true, true, true, true, true, true, true, false, false, false, false, false, false, false, false, false, false, false, false, false, false, false, false] rfl rfl (by kernel_rfl) (fun _ _ _ h => h) (Or.inr ⟨by rfl, rfl⟩) ?_ ?_
        rotate_left
        · simp only [Act.put, List.setIfInBounds_toArray, List.set_cons_zero, List.set_cons_succ, i64_w, i32_w]
          rfl
        refine pure_ (i := 12) (N := some 81) (v := undef) (a' := ?_) #[true, true, true, true, true, true, true, true, true, true, true, true, true, false, false, false, false, false, false, false, false, false, false, false, false, false, false, false] rfl rfl (by kernel_rfl) (fun _ _ _ h => h) (Or.inr ⟨by rfl, rfl⟩) ?_ ?_
        rotate_left
        · simp only [Act.put, List.setIfInBounds_toArray, List.set_cons_zero, List.set_cons_succ, i64_w, i32_w]
          rfl
        refine pure_ (i := 13) (N := some 82) (v := undef) (a' := ?_) #[true, true, true, true, true, true, true, true, true, true, true, true, true, true, false, false, false, false, false, false, false, false, false, false, false, false, false, false] rfl rfl (by kernel_rfl) (fun _ _ _ h => h) (Or.inr ⟨by rfl, rfl⟩) ?_ ?_
        rotate_left
        · simp only [Act.put, List.setIfInBounds_toArray, List.set_cons_zero, List.set_cons_succ, i64_w, i32_w]
          rfl
        refine pure_ (i := 14) (N := some 83) (v := undef) (a' := ?_) #[true, true, true, true, true, true, true, true, true, true, true, true, true, true, true, false, false, false, false, false, false, false, false, false, false, false, false, false] rfl rfl (by kernel_rfl) (fun _ _ _ h => h) (Or.inr ⟨by rfl, rfl⟩) ?_ ?_
        rotate_left
        · simp only [Act.put, List.setIfInBounds_toArray, List.set_cons_zero, List.set_cons_succ, i64_w, i32_w]
          rfl
        refine pure_ (i := 15) (N := some 84) (v := undef) (a' := ?_) #[true, true, true, true, true, true, true, true, true, true, true, true, true, true, true, true, false, false, false, false, false, false, false, false, false, false, false, false] rfl rfl (by kernel_rfl) (fun _ _ _ h => h) (Or.inr ⟨by rfl, rfl⟩) ?_ ?_
        rotate_left
        · simp only [Act.put, List.setIfInBounds_toArray, List.set_cons_zero, List.set_cons_succ, i64_w, i32_w]
          rfl
        refine pure_ (i := 16) (N := some 85) (v := undef) (a' := ?_) #[true, true, true, true, true, true, true, true, true, true, true, true, true, true, true, true, true, false, false, false, false, false, false, false, false, false, false, false] rfl rfl (by kernel_rfl) (fun _ _ _ h => h) (Or.inr ⟨by rfl, rfl⟩) ?_ ?_
        rotate_left
        · simp only [Act.put, List.setIfInBounds_toArray, List.set_cons_zero, List.set_cons_succ, i64_w, i32_w]
          rfl
        refine pure_ (i := 17) (N := some 86) (v := undef) (a' := ?_) #[true, true, true, true, true, true, true, true, true, true, true, true, true, true, true, true, true, true, false, false, false, false, false, false, false, false, false, false] rfl rfl (by kernel_rfl) (fun _ _ _ h => h) (Or.inr ⟨by rfl, rfl⟩) ?_ ?_
        rotate_left
        · simp only [Act.put, List.setIfInBounds_toArray, List.set_cons_zero, List.set_cons_succ, i64_w, i32_w]
          rfl
        refine pure_ (i := 18) (N := some 87) (v := undef) (a' := ?_) #[true, true, true, true, true, true, true, true, true, true, true, true, true, true, true, true, true, true, true, false, false, false, false, false, false, false, false, false] rfl rfl (by kernel_rfl) (fun _ _ _ h => h) (Or.inr ⟨by rfl, rfl⟩) ?_ ?_
        rotate_left
        · simp only [Act.put, List.setIfInBounds_toArray, List.set_cons_zero, List.set_cons_succ, i64_w, i32_w]
          rfl
        refine pure_ (i := 19) (N := some 88) (v := undef) (a' := ?_) #[true, true, true, true, true, true, true, true, true, true, true, true, true, true, true, true, true, true, true, true, false, false, false, false, false, false, false, false] rfl rfl (by kernel_rfl) (fun _ _ _ h => h) (Or.inr ⟨by rfl, rfl⟩) ?_ ?_
        rotate_left
        · simp only [Act.put, List.setIfInBounds_toArray, List.set_cons_zero, List.set_cons_succ, i64_w, i32_w]
          rfl
        refine pure_ (i := 20) (N := some 89) (v := undef) (a' := ?_) #[true, true, true, true, true, true, true, true, true, true, true, true, true, true, true, true, true, true, true, true, true, false, false, false, false, false, false, false] rfl rfl (by kernel_rfl) (fun _ _ _ h => h) (Or.inr ⟨by rfl, rfl⟩) ?_ ?_
        rotate_left
        · simp only [Act.put, List.setIfInBounds_toArray, List.set_cons_zero, List.set_cons_succ, i64_w, i32_w]
          rfl
        refine pure_ (i := 21) (N := some 90) (v := undef) (a' := ?_) #[true, true, true, true, true, true, true, true, true, true, true, true, true, true, true, true, true, true, true, true, true, true, false, false, false, false, false, false] rfl rfl (by kernel_rfl) (fun _ _ _ h => h) (Or.inr ⟨by rfl, rfl⟩) ?_ ?_
        rotate_left
        · simp only [Act.put, List.setIfInBounds_toArray, List.set_cons_zero, List.set_cons_succ, i64_w, i32_w]
          rfl
        refine pure_ (i := 22) (N := some 91) (v := undef) (a' := ?_) #[true, true, true, true, true, true, true, true, true, true, true, true, true, true, true, true, true, true, true, true, true, true, true, false, false, false, false, false] rfl rfl (by kernel_rfl) (fun _ _ _ h => h) (Or.inr ⟨by rfl, rfl⟩) ?_ ?_
        rotate_left
        · simp only [Act.put, List.setIfInBounds_toArray, List.set_cons_zero, List.set_cons_succ, i64_w, i32_w]
          rfl
        refine pure_ (i := 23) (N := some 92) (v := undef) (a' := ?_) #[true, true, true, true, true, true, true, true, true, true, true, true, true, true, true, true, true, true, true, true, true, true, true, true, false, false, false, false] rfl rfl (by kernel_rfl) (fun _ _ _ h => h) (Or.inr ⟨by rfl, rfl⟩) ?_ ?_
        rotate_left
        · simp only [Act.put, List.setIfInBounds_toArray, List.set_cons_zero, List.set_cons_succ, i64_w, i32_w]
          rfl
        refine pure_ (i := 24) (N := some 93) (v := undef) (a' := ?_) #[true, true, true, true, true, true, true, true, true, true, true, true, true, true, true, true, true, true, true, true, true, true, true, true, true, false, false, false] rfl rfl (by kernel_rfl) (fun _ _ _ h => h) (Or.inr ⟨by rfl, rfl⟩) ?_ ?_
        rotate_left
        · simp only [Act.put, List.setIfInBounds_toArray, List.set_cons_zero, List.set_cons_succ, i64_w, i32_w]
          rfl
        refine pure_ (i := 25) (N := some 94) (v := undef) (a' := ?_) #[true, true, true, true, true, true, true, true, true, true, true, true, true, true, true, true, true, true, true, true, true, true, true, true, true, true, false, false] rfl rfl (by kernel_rfl) (fun _ _ _ h => h) (Or.inr ⟨by rfl, rfl⟩) ?_ ?_
        rotate_left
        · simp only [Act.put, List.setIfInBounds_toArray, List.set_cons_zero, List.set_cons_succ, i64_w, i32_w]
          rfl
        refine pure_ (i := 26) (N := some 95) (v := undef) (a' := ?_) #[true, true, true, true, true, true, true, true, true, true, true, true, true, true, true, true, true, true, true, true, true, true, true, true, true, true, true, false] rfl rfl (by kernel_rfl) (fun _ _ _ h => h) (Or.inr ⟨by rfl, rfl⟩) ?_ ?_
        rotate_left
        · simp only [Act.put, List.setIfInBounds_toArray, List.set_cons_zero, List.set_cons_succ, i64_w, i32_w]
          rfl
        refine pure_ (i := 27) (N := some 96) (v := ?_) (a' := ?_) #[true, true, true, true, true, true, true, true, true, true, true, true, true, true, true, true, true, true, true, true, true, true, true, true, true, true, true, true] rfl rfl (by kernel_rfl) (fun _ _ _ h => h) (Or.inl ⟨by rfl, ?_⟩) ?_ ?_
        rotate_left
        · intro w'
          go_simp
          with_reducible rfl
        rotate_left
        · simp only [Act.put, List.setIfInBounds_toArray, List.set_cons_zero, List.set_cons_succ, i64_w, i32_w]
          rfl
        refine done_ (by kernel_rfl) ?_
        go_wp2
        go_ret
        exact ⟨rfl, HBd.out⟩
      · have hzb : (a.key.toList == ([] : List UInt8)) = false := by
          rw [beq_eq_false_iff_ne]
          intro h
          have : a.key = ByteArray.mk #[] := ba_eq.1 (h.trans (by decide +kernel))
          rw [this] at hz; exact hz rfl
        have hra : rightB a.add = true := TAdd.right hok (by omega) hks'
        have HRA := Lib.hid hra
        have hcl := cntOf_le (L.take k)
        have htl := List.length_take_le k L
        have hcl2 := cntOf_le (L.reverse.take k)
        have htl2 := List.length_take_le k L.reverse
        have TR : Hid (takes (cntOf (L.take k)) a.key a.at_ a.n = true) := (takes_right a.add _ (by omega)).trans hra
        have hsz9 : a.key.size ≤ 9223372036854775807 := by omega
        have P1d : Hid (PanesAt wr.drew p1 W (cntOf (L.take k)) b1 (sumsOf W (L.take k))) := P1.out.below (Below.refl _ _).drew
        have P2d : Hid (PanesAt wr.drew p2 W (cntOf (L.reverse.take k)) b2 (sumsOf W (L.reverse.take k))) := P2.out.below (Below.refl _ _).drew
        have HBd : Hid (Below w.heap.size w wr.drew) := HB.out.drew
        have BKd : Hid (wr.drew.heap[w2.heap.size]? = some (.cells #[.int .i64 sz, .int .i64 hp] 23 (0, 0))) := BK.out
        have K0d : Hid (wr.drew.cell? ⟨b, off + k * 3, none⟩ = some (.string a.key)) := K0.out
        have K1d : Hid (wr.drew.cell? ⟨b, off + k * 3 + 1, none⟩ = some (.int .u16 a.at_)) := K1.out
        have K2d : Hid (wr.drew.cell? ⟨b, off + k * 3 + 2, none⟩ = some (.int .u16 a.n)) := K2.out
        have hq1 : wrap64 a.at_ = a.at_ := by unfold wrap64; omega
        have hq2 : wrap64 a.n = a.n := by unfold wrap64; omega
        have hq3 : IntKind.i64.wrap a.at_ = a.at_ := IntWalk.i64_in _ (by omega)
        have hq4 : IntKind.i64.wrap a.n = a.n := IntWalk.i64_in _ (by omega)
        clear hra hcl htl hcl2 htl2 hok
        go_wp2_with fail
        clear HB BK K0 K1 K2
        have HB := HBd
        have BK := BKd
        have K0 := K0d
        have K1 := K1d
        have K2 := K2d
        refine start_ (n := 28) (S := fun w' => w'.cell? ⟨b, off + k * 3, none⟩ = some (.string a.key) ∧ w'.cell? ⟨b, off + k * 3 + 1, none⟩ = some (.int .u16 a.at_) ∧ w'.cell? ⟨b, off + k * 3 + 2, none⟩ = some (.int .u16 a.n)) (ds := []) #[false, false, false, false, false, false, false, false, false, false, false, false, false, false, false, false, false, false, false, false, false, false, false, false, false, false, false, false] (by kernel_rfl) rfl rfl ⟨K0.out, K1.out, K2.out⟩ (fun hHeld => ?_)
        refine pure_ (i := 0) (N := some 69) (v := ?_) (a' := ?_) #[true, false, false, false, false, false, false, false, false, false, false, false, false, false, false, false, false, false, false, false, false, false, false, false, false, false, false, false] rfl rfl (by kernel_rfl) (fun _ _ _ h => h) (Or.inl ⟨by rfl, ?_⟩) ?_ ?_
        rotate_left
        · intro w'
          go_simp
          with_reducible rfl
        rotate_left
        · simp only [Act.put, List.setIfInBounds_toArray, List.set_cons_zero, List.set_cons_succ, i64_w, i32_w]
          rfl
        refine pure_ (i := 1) (N := some 70) (v := ?_) (a' := ?_) #[true, true, false, false, false, false, false, false, false, false, false, false, false, false, false, false, false, false, false, false, false, false, false, false, false, false, false, false] rfl rfl (by kernel_rfl) (fun _ _ _ h => h) (Or.inl ⟨by rfl, ?_⟩) ?_ ?_
        rotate_left
        · intro w'
          go_simp
          with_reducible rfl
        rotate_left
        · simp only [Act.put, List.setIfInBounds_toArray, List.set_cons_zero, List.set_cons_succ, i64_w, i32_w]
          rfl
        refine pure_ (i := 2) (N := some 71) (v := ?_) (a' := ?_) #[true, true, true, false, false, false, false, false, false, false, false, false, false, false, false, false, false, false, false, false, false, false, false, false, false, false, false, false] rfl rfl (by kernel_rfl) (fun _ _ _ h => h) (Or.inl ⟨by rfl, ?_⟩) ?_ ?_
        rotate_left
        · intro w'
          go_simp
          with_reducible rfl
        rotate_left
        · simp only [Act.put, List.setIfInBounds_toArray, List.set_cons_zero, List.set_cons_succ, i64_w, i32_w]
          rfl
        refine pure_ (i := 3) (N := some 72) (v := ?_) (a' := ?_) #[true, true, true, true, false, false, false, false, false, false, false, false, false, false, false, false, false, false, false, false, false, false, false, false, false, false, false, false] rfl rfl (by kernel_rfl) (fun _ _ _ h => h) (Or.inl ⟨by rfl, ?_⟩) ?_ ?_
        rotate_left
        · intro w'
          go_simp
          with_reducible rfl
        rotate_left
        · simp only [Act.put, List.setIfInBounds_toArray, List.set_cons_zero, List.set_cons_succ, i64_w, i32_w]
          rfl
        refine take_ (i := 4) (N := some 73) (v := ?_) (a' := ?_) #[true, true, true, true, true, false, false, false, false, false, false, false, false, false, false, false, false, false, false, false, false, false, false, false, false, false, false, false] rfl rfl (by kernel_rfl) (fun _ _ _ h => h) (Or.inl ⟨by rfl, ?_⟩) hHeld ?_ ?_
        rotate_left
        · rintro w' ⟨s0, s1, s2⟩
          go_simp
          with_reducible rfl
        rotate_left
        · simp only [Act.put, List.setIfInBounds_toArray, List.set_cons_zero, List.set_cons_succ, i64_w, i32_w]
          rfl
        refine pure_ (i := 5) (N := some 74) (v := ?_) (a' := ?_) #[true, true, true, true, true, true, false, false, false, false, false, false, false, false, false, false, false, false, false, false, false, false, false, false, false, false, false, false] rfl rfl (by kernel_rfl) (fun _ _ _ h => h) (Or.inl ⟨by rfl, ?_⟩) ?_ ?_
        rotate_left
        · intro w'
          go_simp
          with_reducible rfl
        rotate_left
        · simp only [Act.put, List.setIfInBounds_toArray, List.set_cons_zero, List.set_cons_succ, i64_w, i32_w]
          rfl
        refine pure_ (i := 6) (N := some 75) (v := ?_) (a' := ?_) #[true, true, true, true, true, true, true, false, false, false, false, false, false, false, false, false, false, false, false, false, false, false, false, false, false, false, false, false] rfl rfl (by kernel_rfl) (fun _ _ _ h => h) (Or.inl ⟨by rfl, ?_⟩) ?_ ?_
        rotate_left
        · intro w'
          go_simp
          with_reducible rfl
        rotate_left
        · simp only [Act.put, List.setIfInBounds_toArray, List.set_cons_zero, List.set_cons_succ, i64_w, i32_w]
          rfl
        refine pure_ (i := 7) (N := some 76) (v := ?_) (a' := ?_) #[true, true, true, true, true, true, true, true, false, false, false, false, false, false, false, false, false, false, false, false, false, false, false, false, false, false, false, false] rfl rfl (by kernel_rfl) (fun _ _ _ h => h) (Or.inl ⟨by rfl, ?_⟩) ?_ ?_
        rotate_left
        · intro w'
          go_simp
          with_reducible rfl
        rotate_left
        · simp only [Act.put, List.setIfInBounds_toArray, List.set_cons_zero, List.set_cons_succ, i64_w, i32_w]
          rfl
        refine pure_ (i := 8) (N := some 77) (v := ?_) (a' := ?_) #[true, true, true, true, true, true, true, true, true, false, false, false, false, false, false, false, false, false, false, false, false, false, false, false, false, false, false, false] rfl rfl (by kernel_rfl) (fun _ _ _ h => h) (Or.inl ⟨by rfl, ?_⟩) ?_ ?_
        rotate_left
        · intro w'
          go_simp
          with_reducible rfl
        rotate_left
        · simp only [Act.put, List.setIfInBounds_toArray, List.set_cons_zero, List.set_cons_succ, i64_w, i32_w]
          rfl
        refine pure_ (i := 9) (N := some 78) (v := ?_) (a' := ?_) #[true, true, true, true, true, true, true, true, true, true, false, false, false, false, false, false, false, false, false, false, false, false, false, false, false, false, false, false] rfl rfl (by kernel_rfl) (fun _ _ _ h => h) (Or.inl ⟨by rfl, ?_⟩) ?_ ?_
        rotate_left
        · intro w'
          go_simp
          with_reducible rfl
        rotate_left
        · simp only [Act.put, List.setIfInBounds_toArray, List.set_cons_zero, List.set_cons_succ, i64_w, i32_w]
          rfl
        refine pure_ (i := 10) (N := some 79) (v := ?_) (a' := ?_) #[true, true, true, true, true, true, true, true, true, true, true, false, false, false, false, false, false, false, false, false, false, false, false, false, false, false, false, false] rfl rfl (by kernel_rfl) (fun _ _ _ h => h) (Or.inl ⟨by rfl, ?_⟩) ?_ ?_
        rotate_left
        · intro w'
          go_simp
          with_reducible rfl
        rotate_left
        · simp only [Act.put, List.setIfInBounds_toArray, List.set_cons_zero, List.set_cons_succ, i64_w, i32_w]
          rfl
        refine pure_ (i := 11) (N := some 80) (v := ?_) (a' := ?_) #[true, true, true, true, true, true, true, true, true, true, true, true, false, false, false, false, false, false, false, false, false, false, false, false, false, false, false, false] rfl rfl (by kernel_rfl) (fun _ _ _ h => h) (Or.inl ⟨by rfl, ?_⟩) ?_ ?_
        rotate_left
        · intro w'
          go_simp
          with_reducible rfl
        rotate_left
        · simp only [Act.put, List.setIfInBounds_toArray, List.set_cons_zero, List.set_cons_succ, i64_w, i32_w]
          rfl
        refine pure_ (i := 13) (N := some 82) (v := ?_) (a' := ?_) #[true, true, true, true, true, true, true, true, true, true, true, true, false, true, false, false, false, false, false, false, false, false, false, false, false, false, false, false] rfl rfl (by kernel_rfl) (fun _ _ _ h => h) (Or.inl ⟨by rfl, ?_⟩) ?_ ?_
        rotate_left
        · intro w'
          go_simp
          with_reducible rfl
        rotate_left
        · simp only [Act.put, List.setIfInBounds_toArray, List.set_cons_zero, List.set_cons_succ, i64_w, i32_w]
          rfl
        refine pure_ (i := 14) (N := some 83) (v := ?_) (a' := ?_) #[true, true, true, true, true, true, true, true, true, true, true, true, false, true, true, false, false, false, false, false, false, false, false, false, false, false, false, false] rfl rfl (by kernel_rfl) (fun _ _ _ h => h) (Or.inl ⟨by rfl, ?_⟩) ?_ ?_
        rotate_left
        · intro w'
          go_simp
          with_reducible rfl
        rotate_left
        · simp only [Act.put, List.setIfInBounds_toArray, List.set_cons_zero, List.set_cons_succ, i64_w, i32_w]
          rfl
        refine pure_ (i := 15) (N := some 84) (v := ?_) (a' := ?_) #[true, true, true, true, true, true, true, true, true, true, true, true, false, true, true, true, false, false, false, false, false, false, false, false, false, false, false, false] rfl rfl (by kernel_rfl) (fun _ _ _ h => h) (Or.inl ⟨by rfl, ?_⟩) ?_ ?_
        rotate_left
        · intro w'
          go_simp
          with_reducible rfl
        rotate_left
        · simp only [Act.put, List.setIfInBounds_toArray, List.set_cons_zero, List.set_cons_succ, i64_w, i32_w]
          rfl
        refine pure_ (i := 16) (N := some 85) (v := ?_) (a' := ?_) #[true, true, true, true, true, true, true, true, true, true, true, true, false, true, true, true, true, false, false, false, false, false, false, false, false, false, false, false] rfl rfl (by kernel_rfl) (fun _ _ _ h => h) (Or.inl ⟨by rfl, ?_⟩) ?_ ?_
        rotate_left
        · intro w'
          go_simp
          with_reducible rfl
        rotate_left
        · simp only [Act.put, List.setIfInBounds_toArray, List.set_cons_zero, List.set_cons_succ, i64_w, i32_w]
          rfl
        refine pure_ (i := 19) (N := some 88) (v := ?_) (a' := ?_) #[true, true, true, true, true, true, true, true, true, true, true, true, false, true, true, true, true, false, false, true, false, false, false, false, false, false, false, false] rfl rfl (by kernel_rfl) (fun _ _ _ h => h) (Or.inl ⟨by rfl, ?_⟩) ?_ ?_
        rotate_left
        · intro w'
          go_simp
          with_reducible rfl
        rotate_left
        · simp only [Act.put, List.setIfInBounds_toArray, List.set_cons_zero, List.set_cons_succ, i64_w, i32_w]
          rfl
        refine pure_ (i := 20) (N := some 89) (v := ?_) (a' := ?_) #[true, true, true, true, true, true, true, true, true, true, true, true, false, true, true, true, true, false, false, true, true, false, false, false, false, false, false, false] rfl rfl (by kernel_rfl) (fun _ _ _ h => h) (Or.inl ⟨by rfl, ?_⟩) ?_ ?_
        rotate_left
        · intro w'
          go_simp
          with_reducible rfl
        rotate_left
        · simp only [Act.put, List.setIfInBounds_toArray, List.set_cons_zero, List.set_cons_succ, i64_w, i32_w]
          rfl
        refine pure_ (i := 21) (N := some 90) (v := ?_) (a' := ?_) #[true, true, true, true, true, true, true, true, true, true, true, true, false, true, true, true, true, false, false, true, true, true, false, false, false, false, false, false] rfl rfl (by kernel_rfl) (fun _ _ _ h => h) (Or.inl ⟨by rfl, ?_⟩) ?_ ?_
        rotate_left
        · intro w'
          go_simp
          with_reducible rfl
        rotate_left
        · simp only [Act.put, List.setIfInBounds_toArray, List.set_cons_zero, List.set_cons_succ, i64_w, i32_w]
          rfl
        refine pure_ (i := 22) (N := some 91) (v := ?_) (a' := ?_) #[true, true, true, true, true, true, true, true, true, true, true, true, false, true, true, true, true, false, false, true, true, true, true, false, false, false, false, false] rfl rfl (by kernel_rfl) (fun _ _ _ h => h) (Or.inl ⟨by rfl, ?_⟩) ?_ ?_
        rotate_left
        · intro w'
          go_simp
          with_reducible rfl
        rotate_left
        · simp only [Act.put, List.setIfInBounds_toArray, List.set_cons_zero, List.set_cons_succ, i64_w, i32_w]
          rfl
        refine take_ (i := 12) (N := some 81) (v := ?_) (a' := ?_) #[true, true, true, true, true, true, true, true, true, true, true, true, true, true, true, true, true, false, false, true, true, true, true, false, false, false, false, false] rfl rfl (by kernel_rfl) (fun _ _ _ h => h) (Or.inl ⟨by rfl, ?_⟩) hHeld ?_ ?_
        rotate_left
        · rintro w' ⟨s0, s1, s2⟩
          go_simp
          with_reducible rfl
        rotate_left
        · simp only [Act.put, List.setIfInBounds_toArray, List.set_cons_zero, List.set_cons_succ, i64_w, i32_w]
          rfl
        refine take_ (i := 17) (N := some 86) (v := ?_) (a' := ?_) #[true, true, true, true, true, true, true, true, true, true, true, true, true, true, true, true, true, true, false, true, true, true, true, false, false, false, false, false] rfl rfl (by kernel_rfl) (fun _ _ _ h => h) (Or.inl ⟨by rfl, ?_⟩) hHeld ?_ ?_
        rotate_left
        · rintro w' ⟨s0, s1, s2⟩
          go_simp
          with_reducible rfl
        rotate_left
        · simp only [Act.put, List.setIfInBounds_toArray, List.set_cons_zero, List.set_cons_succ, i64_w, i32_w]
          rfl
        refine pure_ (i := 18) (N := some 87) (v := ?_) (a' := ?_) #[true, true, true, true, true, true, true, true, true, true, true, true, true, true, true, true, true, true, true, true, true, true, true, false, false, false, false, false] rfl rfl (by kernel_rfl) (fun _ _ _ h => h) (Or.inl ⟨by rfl, ?_⟩) ?_ ?_
        rotate_left
        · intro w'
          go_simp
          with_reducible rfl
        rotate_left
        · simp only [Act.put, List.setIfInBounds_toArray, List.set_cons_zero, List.set_cons_succ, i64_w, i32_w]
          rfl
        refine take_ (i := 23) (N := some 92) (v := ?_) (a' := ?_) #[true, true, true, true, true, true, true, true, true, true, true, true, true, true, true, true, true, true, true, true, true, true, true, true, false, false, false, false] rfl rfl (by kernel_rfl) (fun _ _ _ h => h) (Or.inl ⟨by rfl, ?_⟩) hHeld ?_ ?_
        rotate_left
        · rintro w' ⟨s0, s1, s2⟩
          go_simp
          with_reducible rfl
        rotate_left
        · simp only [Act.put, List.setIfInBounds_toArray, List.set_cons_zero, List.set_cons_succ, i64_w, i32_w]
          rfl
        refine pure_ (i := 24) (N := some 93) (v := ?_) (a' := ?_) #[true, true, true, true, true, true, true, true, true, true, true, true, true, true, true, true, true, true, true, true, true, true, true, true, true, false, false, false] rfl rfl (by kernel_rfl) (fun _ _ _ h => h) (Or.inl ⟨by rfl, ?_⟩) ?_ ?_
        rotate_left
        · intro w'
          go_simp
          with_reducible rfl
        rotate_left
        · simp only [Act.put, List.setIfInBounds_toArray, List.set_cons_zero, List.set_cons_succ, i64_w, i32_w]
          rfl
        refine one_ (i := 25) (N := some 94) #[true, true, true, true, true, true, true, true, true, true, true, true, true, true, true, true, true, true, true, true, true, true, true, true, true, true, false, false] rfl rfl (by kernel_rfl) (by decide) (fun K hK => ?_)
        refine goes_ Try.func29 (by kernel_rfl) rfl #[.pointer (some ⟨p1, 0, none⟩), .string a.key, .int .i64 a.at_, .int .i64 a.n] (by rfl) rfl rfl (by (try simp only [List.map_toArray, List.map_cons, List.map_nil]); first | done | rfl) ?_
        with_reducible refine (add_calls _ p1 W _ b1 _ _ _ _ P1d.out hsz9).mono ?_
        rintro e w6 ⟨rfl, hfr, hpa⟩
        refine ⟨_, rfl, ?_⟩
        rw [TR.out] at hpa ⊢
        rw [if_pos rfl, if_pos rfl] at hpa
        have P1n := Lib.hid hpa
        have HF1 := Lib.hid hfr
        have BK := Lib.hid (blk_fr BK.out hfr (by have := HG1.out; simp; omega))
        have hbw := hfr.below HB.out.size (by have := HG1.out; simp; omega)
        have K0 := Lib.hid ((hbw.cell (p := ⟨b, off + k * 3, none⟩) HBL.out).trans K0.out)
        have K1 := Lib.hid ((hbw.cell (p := ⟨b, off + k * 3 + 1, none⟩) HBL.out).trans K1.out)
        have K2 := Lib.hid ((hbw.cell (p := ⟨b, off + k * 3 + 2, none⟩) HBL.out).trans K2.out)
        have HB := Lib.hid (HB.out.trans hbw)
        clear hfr hpa hbw
        refine hK.out _ _ ⟨K0.out, K1.out, K2.out⟩ (fun hHeld => ?_)
        clear hK K
        refine norm_ (a' := ?_) ?_ ?_
        rotate_left
        · show Act.put _ (some 94) _ = _
          simp only [Act.put, List.setIfInBounds_toArray, List.set_cons_zero, List.set_cons_succ, i64_w, i32_w]
          rfl
        refine pure_ (i := 26) (N := some 95) (v := ?_) (a' := ?_) #[true, true, true, true, true, true, true, true, true, true, true, true, true, true, true, true, true, true, true, true, true, true, true, true, true, true, true, false] rfl rfl (by kernel_rfl) (fun _ _ _ h => h) (Or.inl ⟨by rfl, ?_⟩) ?_ ?_
        rotate_left
        · intro w'
          go_simp
          with_reducible rfl
        rotate_left
        · simp only [Act.put, List.setIfInBounds_toArray, List.set_cons_zero, List.set_cons_succ, i64_w, i32_w]
          rfl
        refine pure_ (i := 27) (N := some 96) (v := ?_) (a' := ?_) #[true, true, true, true, true, true, true, true, true, true, true, true, true, true, true, true, true, true, true, true, true, true, true, true, true, true, true, true] rfl rfl (by kernel_rfl) (fun _ _ _ h => h) (Or.inl ⟨by rfl, ?_⟩) ?_ ?_
        rotate_left
        · intro w'
          go_simp
          with_reducible rfl
        rotate_left
        · simp only [Act.put, List.setIfInBounds_toArray, List.set_cons_zero, List.set_cons_succ, i64_w, i32_w]
          rfl
        refine done_ (by kernel_rfl) ?_
        have P2n : Hid (PanesAt w6 p2 W (cntOf (L.reverse.take k)) b2 (sumsOf W (L.reverse.take k))) := P2d.out.same (HF1.out.block _ (blk_lt P2d.out.blk) (by have := HG2.out; simp; omega)) (HF1.out.block _ P2d.out.map.lt (by have := HG2.out; simp; omega))
        clear hHeld K0 K1 K2 K0d K1d K2d P1d P2d HF1
        obtain ⟨j, hj⟩ : ∃ j, j = l.length - 1 - k := ⟨_, rfl⟩
        have hjl : j < l.length := by omega
        have hj1 : (l.length : Int) - 1 - k = j := by omega
        obtain ⟨b', off', cap', heq', hblt', hok', e0, e1, e2⟩ := tadds_cell HLw.out hjl
        cases heq'
        obtain ⟨x, hx⟩ : ∃ x, x = l[j] := ⟨_, rfl⟩
        rw [← hx] at e0 e1 e2 hok'
        have xbd := TAdd.bd hok'
        have hxk : x.key.size ≤ 9223372036854775807 := by have := HFS.out x (by rw [hx]; exact List.getElem_mem _); omega
        have HTR : Hid (L.reverse.take (k + 1) = L.reverse.take k ++ [x.add]) := by
          have h1 : k < L.reverse.length := by rw [List.length_reverse, HLG.out]; exact hkn
          have : L.reverse[k] = x.add := by
            rw [List.getElem_reverse]
            simp only [HLL.out, List.getElem_map, List.length_map, hx, hj]
          rw [← this]; exact List.take_succ_eq_append_getElem h1
        obtain ⟨xb1, xb2, xb3, xb4⟩ := xbd
        have hcl2 := cntOf_le (L.reverse.take k)
        have htl2 := List.length_take_le k L.reverse
        have TX : Hid (takes (cntOf (L.reverse.take k)) x.key x.at_ x.n = rightB x.add) := takes_right x.add _ (by omega)
        have k0 := (HB.out.cell (p := ⟨b, off + j * 3, none⟩) hblt').trans e0
        have k1 := (HB.out.cell (p := ⟨b, off + j * 3 + 1, none⟩) hblt').trans e1
        have k2 := (HB.out.cell (p := ⟨b, off + j * 3 + 2, none⟩) hblt').trans e2
        have hba : Below w6.heap.size w6 (w6.alloc (.cells #[.string x.key, .int .u16 x.at_, .int .u16 x.n] 51)) := (Below.refl _ w6).alloc (Nat.le_refl _) _
        have P1a := Lib.hid (P1n.out.below hba)
        have P2a := Lib.hid (P2n.out.below hba)
        have BKa := Lib.hid (blk_below BK.out hba (blk_lt BK.out))
        have HBa := Lib.hid (HB.out.trans (hba.mono HB.out.size))
        clear hx hj hcl2 htl2 hok' e0 e1 e2 hba
        go_wp2_with fail
        clear k0 k1 k2 hj1
        refine (add_calls _ p2 W _ b2 _ _ _ _ P2a.out hxk).mono ?_
        rintro e w7 ⟨rfl, hfr, hpa⟩
        rw [TX.out] at hpa ⊢
        have P2 : Hid (PanesAt w7 p2 W (cntOf (L.reverse.take (k + 1))) b2 (sumsOf W (L.reverse.take (k + 1)))) := by show PanesAt _ _ _ _ _ _; rw [HTR.out, cntOf_snoc, sumsOf_snoc]; exact hpa
        have P1 : Hid (PanesAt w7 p1 W (cntOf (L.take (k + 1))) b1 (sumsOf W (L.take (k + 1)))) := by
          show PanesAt _ _ _ _ _ _
          rw [HTK.out, cntOf_snoc, sumsOf_snoc, if_pos HRA.out, if_pos HRA.out]
          exact P1a.out.same (hfr.block _ (blk_lt P1a.out.blk) (by have := HG2.out; simp; omega)) (hfr.block _ P1a.out.map.lt (by have := HG2.out; simp; omega))
        have BK := Lib.hid (blk_fr BKa.out hfr (by have := HG2.out; simp; omega))
        have HB := Lib.hid (HBa.out.trans (hfr.below HBa.out.size (by have := HG2.out; simp; omega)))
        clear hpa hfr
        go_wp2
        go_roundg (l.length - (k + 1))
        case measure => omega
        case rel =>
          refine ⟨k + 1, by omega, by go_num, HB, BK, P1, P2, fun i hi hik => ?_⟩
          rcases Nat.lt_or_ge i k with h | h
          · exact HR.out i hi h
          · obtain rfl : i = k := by omega
            rw [← HA.out]; exact HRA.out
    · obtain rfl : k = l.length := by omega
      have HR2 : Hid (∀ i (h : i < l.length), rightB l[i].add = true) := fun i h => HR.out i h h
      have P1 : Hid (PanesAt wr p1 W (cntOf L) b1 (sumsOf W L)) := by have := P1.out; rw [← HLG.out, List.take_length] at this; exact this
      have P2 : Hid (PanesAt wr p2 W (cntOf L.reverse) b2 (sumsOf W L.reverse)) := by have := P2.out; rw [← HLG.out, ← List.length_reverse, List.take_length] at this; exact this
      have c0 : wr.cell? ⟨w2.heap.size, 0, none⟩ = some (.int .i64 sz) := blk_cell BK.out 0
      have c1 : wr.cell? ⟨w2.heap.size, 1, none⟩ = some (.int .i64 hp) := blk_cell BK.out 1
      have hne : (hp == 0) = false := by simp; omega
      have hne' : ¬ hp = 0 := by omega
      clear HR
      have ht1 : en.tdiv hp = en / hp := Int.tdiv_eq_ediv_of_nonneg (by omega)
      have ht2 : 0 ≤ en / hp := Int.ediv_nonneg (by omega) (by omega)
      have ht3 : en / hp ≤ en := Int.ediv_le_self _ (by omega)
      have ht4 : wrap64 (en / hp) = en / hp := by unfold wrap64; omega
      have ht5 : IntKind.i64.wrap (en / hp) = en / hp := IntWalk.i64_in _ (by omega)
      have hen : wrap64 en = en := by unfold wrap64; omega
      have hen' : IntKind.i64.wrap en = en := IntWalk.i64_in _ (by omega)
      clear c0 c1
      go_wp2_with fail
      have P1d : Hid (PanesAt wr.drew p1 W (cntOf L) b1 (sumsOf W L)) := P1.out.below (Below.refl _ _).drew
      have P2d : Hid (PanesAt wr.drew p2 W (cntOf L.reverse) b2 (sumsOf W L.reverse)) := P2.out.below (Below.refl _ _).drew
      have HBd : Hid (Below w.heap.size w wr.drew) := HB.out.drew
      have BKd : Hid (wr.drew.heap[w2.heap.size]? = some (.cells #[.int .i64 sz, .int .i64 hp] 23 (0, 0))) := BK.out
      have HB := HBd
      have BK := BKd
      refine start_ (n := 9) (S := fun w' => w'.cell? ⟨w2.heap.size, 0, none⟩ = some (.int .i64 sz) ∧ w'.cell? ⟨w2.heap.size, 1, none⟩ = some (.int .i64 hp)) (ds := []) #[false, false, false, false, false, false, false, false, false] (by kernel_rfl) rfl rfl ⟨(blk_cell BK.out 0), (blk_cell BK.out 1)⟩ (fun hHeld => ?_)
      refine pure_ (i := 0) (N := some 116) (v := ?_) (a' := ?_) #[true, false, false, false, false, false, false, false, false] rfl rfl (by kernel_rfl) (fun _ _ _ h => h) (Or.inl ⟨by rfl, ?_⟩) ?_ ?_
      rotate_left
      · intro w'
        go_simp
        with_reducible rfl
      rotate_left
      · simp only [Act.put, List.setIfInBounds_toArray, List.set_cons_zero, List.set_cons_succ, i64_w, i32_w]
        rfl
      refine pure_ (i := 1) (N := some 117) (v := ?_) (a' := ?_) #[true, true, false, false, false, false, false, false, false] rfl rfl (by kernel_rfl) (fun _ _ _ h => h) (Or.inl ⟨by rfl, ?_⟩) ?_ ?_
      rotate_left
      · intro w'
        go_simp
        with_reducible rfl
      rotate_left
      · simp only [Act.put, List.setIfInBounds_toArray, List.set_cons_zero, List.set_cons_succ, i64_w, i32_w]
        rfl
      refine pure_ (i := 2) (N := some 118) (v := ?_) (a' := ?_) #[true, true, true, false, false, false, false, false, false] rfl rfl (by kernel_rfl) (fun _ _ _ h => h) (Or.inl ⟨by rfl, ?_⟩) ?_ ?_
      rotate_left
      · intro w'
        go_simp
        with_reducible rfl
      rotate_left
      · simp only [Act.put, List.setIfInBounds_toArray, List.set_cons_zero, List.set_cons_succ, i64_w, i32_w]
        rfl
      refine pure_ (i := 5) (N := some 121) (v := ?_) (a' := ?_) #[true, true, true, false, false, true, false, false, false] rfl rfl (by kernel_rfl) (fun _ _ _ h => h) (Or.inl ⟨by rfl, ?_⟩) ?_ ?_
      rotate_left
      · intro w'
        go_simp
        with_reducible rfl
      rotate_left
      · simp only [Act.put, List.setIfInBounds_toArray, List.set_cons_zero, List.set_cons_succ, i64_w, i32_w]
        rfl
      refine take_ (i := 3) (N := some 119) (v := ?_) (a' := ?_) #[true, true, true, true, false, true, false, false, false] rfl rfl (by kernel_rfl) (fun _ _ _ h => h) (Or.inl ⟨by rfl, ?_⟩) hHeld ?_ ?_
      rotate_left
      · rintro w' ⟨s0, s1⟩
        go_simp
        with_reducible rfl
      rotate_left
      · simp only [Act.put, List.setIfInBounds_toArray, List.set_cons_zero, List.set_cons_succ, i64_w, i32_w]
        rfl
      refine pure_ (i := 4) (N := some 120) (v := ?_) (a' := ?_) #[true, true, true, true, true, true, false, false, false] rfl rfl (by kernel_rfl) (fun _ _ _ h => h) (Or.inl ⟨by rfl, ?_⟩) ?_ ?_
      rotate_left
      · intro w'
        go_simp
        with_reducible rfl
      rotate_left
      · simp only [Act.put, List.setIfInBounds_toArray, List.set_cons_zero, List.set_cons_succ, i64_w, i32_w]
        rfl
      refine take_ (i := 6) (N := some 122) (v := ?_) (a' := ?_) #[true, true, true, true, true, true, true, false, false] rfl rfl (by kernel_rfl) (fun _ _ _ h => h) (Or.inl ⟨by rfl, ?_⟩) hHeld ?_ ?_
      rotate_left
      · rintro w' ⟨s0, s1⟩
        go_simp
        with_reducible rfl
      rotate_left
      · simp only [Act.put, List.setIfInBounds_toArray, List.set_cons_zero, List.set_cons_succ, i64_w, i32_w]
        rfl
      refine pure_ (i := 7) (N := some 123) (v := ?_) (a' := ?_) #[true, true, true, true, true, true, true, true, false] rfl rfl (by kernel_rfl) (fun _ _ _ h => h) (Or.inl ⟨by rfl, ?_⟩) ?_ ?_
      rotate_left
      · intro w'
        go_simp
        with_reducible rfl
      rotate_left
      · simp only [Act.put, List.setIfInBounds_toArray, List.set_cons_zero, List.set_cons_succ, i64_w, i32_w]
        rfl
      refine pure_ (i := 8) (N := some 19) (v := ?_) (a' := ?_) #[true, true, true, true, true, true, true, true, true] rfl rfl (by kernel_rfl) (fun _ _ _ h => h) (Or.inl ⟨by rfl, ?_⟩) ?_ ?_
      rotate_left
      · intro w'
        go_simp
        with_reducible rfl
      rotate_left
      · simp only [Act.put, List.setIfInBounds_toArray, List.set_cons_zero, List.set_cons_succ, i64_w, i32_w]
        rfl
      refine done_ (by kernel_rfl) ?_
      clear hHeld P1 P2
      have P1 := P1d
      have P2 := P2d
      clear ht1 ht2 ht3 ht4 ht5 hen hen' hEw P1d P2d HBd BKd
      go_wp2
      go_loopg [20, 126] l.length (fun m sm i wr => ∃ k : Nat, k + m = l.length ∧ i = .int .i64 k ∧ sm = .int .i64 (rangeSum (L.take k) key (E - sz) E) ∧ Hid (Below w.heap.size w wr) ∧ Hid (wr.heap[w2.heap.size]? = some (.cells #[.int .i64 sz, .int .i64 hp] 23 (0, 0))) ∧ Hid (PanesAt wr p1 W (cntOf L) b1 (sumsOf W L)) ∧ Hid (PanesAt wr p2 W (cntOf L.reverse) b2 (sumsOf W L.reverse)))
      case atStart => exact ⟨0, by omega, rfl, by simp [rangeSum], HB, BK, P1, P2⟩
      case round =>
        clear HB BK P1 P2 HL
        obtain ⟨k, hkm, rfl, rfl, HB, BK, P1, P2⟩ := hrel
        have sb := rsum_bd (L.take k) key (E - sz) E
        have tl : ((L.take k).length : Int) ≤ 60 := by have := List.length_take_le k L; have := HLG.out; omega
        obtain ⟨SM, hSM⟩ : ∃ SM, SM = rangeSum (L.take k) key (E - sz) E := ⟨_, rfl⟩
        rw [← hSM]
        rw [← hSM] at sb
        have HSM := Lib.hid hSM
        obtain ⟨sb1, sb2⟩ := sb
        clear hSM
        have c0 : wr.cell? ⟨w2.heap.size, 0, none⟩ = some (.int .i64 sz) := blk_cell BK.out 0
        have c1 : wr.cell? ⟨w2.heap.size, 1, none⟩ = some (.int .i64 hp) := blk_cell BK.out 1
        by_cases hkn : k < l.length
        · obtain ⟨b, off, cap, heq, hblt, hok, e0, e1, e2⟩ := tadds_cell HLw.out hkn
          cases heq
          have hRA := HR2.out k hkn
          obtain ⟨a, ha⟩ : ∃ a, a = l[k] := ⟨_, rfl⟩
          rw [← ha] at e0 e1 e2 hok hRA
          obtain ⟨xb1, xb2, xb3, xb4⟩ := TAdd.bd hok
          have HTK : Hid (L.take (k + 1) = L.take k ++ [a.add]) := by
            have : L[k]'(by rw [HLG.out]; exact hkn) = a.add := by simp only [HLL.out, List.getElem_map, ha]
            rw [← this]; exact List.take_succ_eq_append_getElem (by rw [HLG.out]; exact hkn)
          have k0 := (HB.out.cell (p := ⟨b, off + k * 3, none⟩) hblt).trans e0
          have k1 := (HB.out.cell (p := ⟨b, off + k * 3 + 1, none⟩) hblt).trans e1
          have k2 := (HB.out.cell (p := ⟨b, off + k * 3 + 2, none⟩) hblt).trans e2
          have HRA := Lib.hid hRA
          have hba : Below wr.heap.size wr (wr.alloc (.cells #[.string a.key, .int .u16 a.at_, .int .u16 a.n] 51)) := (Below.refl _ wr).alloc (Nat.le_refl _) _
          have P1a := Lib.hid (P1.out.below hba)
          have P2a := Lib.hid (P2.out.below hba)
          have BKa := Lib.hid (blk_below BK.out hba (blk_lt BK.out))
          have HBa := Lib.hid (HB.out.trans (hba.mono HB.out.size))
          have BAa : Hid ((wr.alloc (.cells #[.string a.key, .int .u16 a.at_, .int .u16 a.n] 51)).heap[wr.heap.size]? = some (.cells #[.string a.key, .int .u16 a.at_, .int .u16 a.n] 51 (0, 0))) := blk_new wr _
          have ca0 := (blk_cell BKa.out 0).trans rfl
          have ca1 := (blk_cell BKa.out 1).trans rfl
          clear ha hok hRA e0 e1 e2 hba
          have hes : wrap64 (E - sz) = E - sz := by unfold wrap64; omega
          by_cases hkey : a.key = key
          case neg =>
            have hkb : (a.key.toList == key.toList) = false := by rw [beq_eq_false_iff_ne]; exact fun h => hkey (ba_eq.1 h)
            have hkb2 : (a.key.toList != key.toList) = true := by rw [bne, hkb]; rfl
            have HKE := Lib.hid hkey
            clear hkey
            go_wp2
            go_roundg (l.length - (k + 1))
            case measure => omega
            case rel =>
              refine ⟨k + 1, by omega, by go_num, ?_, HBa, BKa, P1a, P2a⟩
              rw [HTK.out, rangeSum_snoc, HSM.out, if_neg (by simp [TAdd.add, HKE.out])]; simp
          have hkb : (a.key.toList == key.toList) = true := by rw [hkey]; simp
          have hkb2 : (a.key.toList != key.toList) = false := by rw [bne, hkb]; rfl
          have HKE := Lib.hid hkey
          clear hkey
          by_cases hin : E - sz ≤ a.at_ ∧ a.at_ < E
          case neg =>
            by_cases hlo : a.at_ < E - sz
            · have hd1 : decide (a.at_ < E - sz) = true := by simpa using hlo
              go_wp2
              go_roundg (l.length - (k + 1))
              case measure => omega
              case rel =>
                refine ⟨k + 1, by omega, by go_num, ?_, HBa, BKa, P1a, P2a⟩
                rw [HTK.out, rangeSum_snoc, HSM.out, if_neg (fun h => by simp only [Bool.and_eq_true] at h; have h1 : E - sz ≤ a.at_ := of_decide_eq_true h.2.1; have h2 : a.at_ < E := of_decide_eq_true h.2.2; omega)]; simp
            · have hd1 : decide (a.at_ < E - sz) = false := by simpa using hlo
              have hhi : E ≤ a.at_ := by omega
              have hd2 : decide (E ≤ a.at_) = true := by simpa using hhi
              go_wp2
              go_roundg (l.length - (k + 1))
              case measure => omega
              case rel =>
                refine ⟨k + 1, by omega, by go_num, ?_, HBa, BKa, P1a, P2a⟩
                rw [HTK.out, rangeSum_snoc, HSM.out, if_neg (fun h => by simp only [Bool.and_eq_true] at h; have h1 : E - sz ≤ a.at_ := of_decide_eq_true h.2.1; have h2 : a.at_ < E := of_decide_eq_true h.2.2; omega)]; simp
          obtain ⟨hin1, hin2⟩ := hin
          have hd1 : decide (a.at_ < E - sz) = false := by simp; omega
          have hd2 : decide (E ≤ a.at_) = false := by simp; omega
          have HNX : Hid (rangeSum (L.take (k + 1)) key (E - sz) E = SM + a.n) := by
            show _ = _
            rw [HTK.out, rangeSum_snoc, HSM.out, if_pos]
            · rfl
            · rw [HRA.out]; simp [TAdd.add, HKE.out]; omega
          go_wp2_with fail
          clear k0 k1 k2 c0 c1 ca0 ca1
          refine (holds_has _ sz hp a.at_ HM1.out xb1 (by omega)).mono ?_
          rintro e w8 ⟨el, ev, rfl, hi, he, hb⟩
          have hEl := he E hin2 hin1 HEM.out
          have HEL := Lib.hid hEl
          have HI := Lib.hid hi
          have P1 := Lib.hid (P1a.out.below hb)
          have P2 := Lib.hid (P2a.out.below hb)
          have BK := Lib.hid (blk_below BKa.out hb (blk_lt BKa.out))
          have HB := Lib.hid (HBa.out.trans ((show Below _ _ _ from hb).mono HBa.out.size))
          obtain ⟨eo, ecap, rfl, hmx2⟩ := SliceR.shape HI.out
          have hel4 : el.length ≤ 9223372036854775807 := by unfold maxLen at *; omega
          clear hi he hb hEl hd1 hd2
          go_wp2
          go_loopg [23, 162] el.length (fun m g i wr => ∃ q : Nat, q + m = el.length ∧ i = .int .i64 q ∧ g = .bool ((el.take q).any (fun y => y == E)) ∧ Hid (Below w.heap.size w wr) ∧ Hid (wr.heap[w2.heap.size]? = some (.cells #[.int .i64 sz, .int .i64 hp] 23 (0, 0))) ∧ Hid (PanesAt wr p1 W (cntOf L) b1 (sumsOf W L)) ∧ Hid (PanesAt wr p2 W (cntOf L.reverse) b2 (sumsOf W L.reverse)) ∧ Hid (IntsAt wr el (.slice eo el.length ecap)))
          case atStart => exact ⟨0, by omega, rfl, by simp, HB, BK, P1, P2, HI⟩
          case round =>
            clear HB BK P1 P2 HI
            obtain ⟨q, hqm, rfl, rfl, HB, BK, P1, P2, HI⟩ := hrel
            obtain ⟨G, hG⟩ : ∃ G, G = (el.take q).any (fun y => y == E) := ⟨_, rfl⟩
            rw [← hG]
            have HGG := Lib.hid hG
            clear hG
            by_cases hqn : q < el.length
            · obtain ⟨b', off', cap', heq, hblt', e0⟩ := ints_cell HI.out hqn
              cases heq
              have HTQ : Hid (el.take (q + 1) = el.take q ++ [el[q]]) := List.take_succ_eq_append_getElem hqn
              obtain ⟨y, hy⟩ : ∃ y, y = el[q] := ⟨_, rfl⟩
              rw [← hy] at e0 HTQ
              clear hy
              obtain ⟨yb, hyb⟩ : ∃ yb, (y == E) = yb := ⟨_, rfl⟩
              have HYB := Lib.hid hyb
              cases G
              · go_wp2
                go_roundg (el.length - (q + 1))
                case measure => omega
                case rel =>
                  refine ⟨q + 1, by omega, by go_num, ?_, HB, BK, P1, P2, HI⟩
                  rw [HTQ.out, List.any_append, ← HGG.out]; simp [HYB.out]
              · go_wp2
                go_roundg (el.length - (q + 1))
                case measure => omega
                case rel =>
                  refine ⟨q + 1, by omega, by go_num, ?_, HB, BK, P1, P2, HI⟩
                  rw [HTQ.out, List.any_append, ← HGG.out]; simp
            · obtain rfl : q = el.length := by omega
              have hGt : G = true := by have := HGG.out; rw [List.take_length, HEL.out] at this; exact this
              subst hGt
              go_wp2
              go_roundg (l.length - (k + 1))
              case measure => omega
              case rel => exact ⟨k + 1, by omega, by go_num, by rw [HNX.out], HB, BK, P1, P2⟩
        · obtain rfl : k = l.length := by omega
          have HV1 : Hid ((if mayB sz hp W && endB hp E then psum (sumsOf W L) key ((E - sz) / W) (E / W) else 0) = SM) := by
            show _ = _
            have := HSM.out
            rw [← HLG.out, List.take_length] at this
            rw [at_range' HM.out HEM.out E0 E1, this]
          have HV2 : Hid ((if mayB sz hp W && endB hp E then psum (sumsOf W L.reverse) key ((E - sz) / W) (E / W) else 0) = SM) := by
            show _ = _
            have := HSM.out
            rw [← HLG.out, List.take_length] at this
            rw [at_range' HM.out HEM.out E0 E1, this, rangeSum_rev]
          go_wp2_with fail
          refine (at_calls _ sz hp E key p1 W _ b1 _ P1.out).mono ?_
          rintro e w8 ⟨rfl, hb⟩
          rw [HV1.out]
          have P2 := Lib.hid (P2.out.below hb)
          have BK := Lib.hid (blk_below BK.out hb (blk_lt BK.out))
          have HB := Lib.hid (HB.out.trans ((show Below _ _ _ from hb).mono HB.out.size))
          skip
          clear hb
          clear c0 c1
          have c0 : w8.cell? ⟨w2.heap.size, 0, none⟩ = some (.int .i64 sz) := blk_cell BK.out 0
          have c1 : w8.cell? ⟨w2.heap.size, 1, none⟩ = some (.int .i64 hp) := blk_cell BK.out 1
          go_wp2_with fail
          refine (at_calls _ sz hp E key p2 W _ b2 _ P2.out).mono ?_
          rintro e w9 ⟨rfl, hb⟩
          rw [HV2.out]
          have HB := Lib.hid (HB.out.trans ((show Below _ _ _ from hb).mono HB.out.size))
          skip
          clear hb
          clear c0 c1
          go_wp2
          go_ret
          exact ⟨rfl, HB.out⟩
end Go.Proofs.Ytgmbbjkkmgooiaa
