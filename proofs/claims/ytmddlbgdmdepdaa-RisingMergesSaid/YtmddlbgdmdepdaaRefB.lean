/- The document's Put over counts: the plain function, and its contract by a walk. No condition. -/
import Derived.Test.YtmddlbgdmdepdaaRefA
set_option linter.unusedVariables false
set_option linter.unusedSimpArgs false
set_option maxRecDepth 100000
namespace Go.Proofs.Ytmddlbgdmdepdaa
open Go.Maps Go.MapKept Go.RowKit Go.ChangeMaps Go.Shelf CK Go.Proofs.YtmddlbgdmdepdaaW.PrintLast

/-- a count in its order -/
def putC (c : Cn) : List Cn → List Cn
  | [] => [c]
  | x :: r => if ltOf cfC c x then c :: x :: r else x :: putC c r
theorem putC_perm (c : Cn) (l : List Cn) : (putC c l).Perm (c :: l) := by
  induction l with
  | nil => exact List.Perm.refl _
  | cons x r ih =>
    rw [putC]
    split
    · exact List.Perm.refl _
    · exact (ih.cons x).trans (List.Perm.swap c x r)
theorem putC_no {c : Cn} {l : List Cn} (h : l.any (fun x => ltOf cfC c x) = false) : putC c l = l ++ [c] := by
  induction l with
  | nil => rfl
  | cons x r ih =>
    rw [List.any_cons, Bool.or_eq_false_iff] at h
    rw [putC, h.1, if_neg (by simp), ih h.2]; rfl
theorem putC_yes {c : Cn} {l : List Cn} (h : l.any (fun x => ltOf cfC c x) = true) (r : List Cn) : putC c (l ++ r) = putC c l ++ r := by
  induction l with
  | nil => simp at h
  | cons x s ih =>
    rw [List.cons_append, putC, putC]
    cases hx : ltOf cfC c x
    · rw [if_neg (by simp), if_neg (by simp), ih (by rw [List.any_cons, hx] at h; simpa using h)]; rfl
    · rw [if_pos rfl, if_pos rfl]; rfl
theorem putC_at {c x : Cn} {l : List Cn} (h : l.any (fun x => ltOf cfC c x) = false) (hx : ltOf cfC c x = true) : putC c (l ++ [x]) = l ++ [c, x] := by
  induction l with
  | nil => rw [List.nil_append, putC, if_pos hx]; rfl
  | cons y s ih =>
    rw [List.any_cons, Bool.or_eq_false_iff] at h
    rw [List.cons_append, putC, h.1, if_neg (by simp), ih h.2]; rfl
set_option maxHeartbeats 2000000 in
theorem put_calls (w : World) (l : List Cn) (v : Value) (c : Cn) (h : CK.RowK encC 2 w l v) (hl : l.length ≤ 1000000) :
    Calls Try.prog 59 #[v, .agg #[.string c.1, .int .i64 c.2]] w (TopPost w (putC c l)) := by
  have HR := Lib.hid h
  obtain ⟨so, cap, rfl, hmx⟩ := SliceR.shape h
  clear h
  obtain ⟨ck, cn⟩ := c
  show Calls Try.prog _ #[_, .agg #[.string ck, .int .i64 cn]] _ _
  obtain ⟨i0, hi, hz0, hz1, hz2⟩ := info_parts infoCount
  obtain ⟨B, hB⟩ : ∃ B, B = w.heap.size + 1 := ⟨_, rfl⟩
  have HB := Lib.hid hB
  have HBZ : Hid (B ≤ (w.alloc (.cells #[.string ck, .int .i64 cn] 55)).heap.size) := by show B ≤ _; simp; omega
  clear hB
  go_enter Try.func59, Try.ntmps59
  go_wp2
  go_loopg [5, 6, 7] l.length (fun m out d i wr => ∃ (k n : Nat) (o : Option Addr) (cp : Nat), k + m = l.length ∧ i = .int .i64 k ∧ d = .bool ((l.take k).any (fun x => ltOf cfC (ck, cn) x)) ∧ out = .slice o n cp ∧
    Hid (wr.ownsRow B 55 2 (.slice o n cp) n ((if (l.take k).any (fun x => ltOf cfC (ck, cn) x) then putC (ck, cn) (l.take k) else l.take k).flatMap encC)) ∧ Hid (Below B (w.alloc (.cells #[.string ck, .int .i64 cn] 55)) wr))
  case atStart =>
    refine ⟨0, 0, _, _, by omega, rfl, by simp, rfl, ?_, ?_⟩
    · show World.ownsRow _ _ _ _ _ _ _
      simp only [List.take_zero, List.any_nil, Bool.false_eq_true, if_false, List.flatMap_nil]
      exact ownsRow_empty (by have := blk_new (w.alloc (.cells #[.string ck, .int .i64 cn] 55)) (.cells #[] 55 (0, 0)); simpa using this) (by have := HB.out; omega)
    · have h1 : B ≤ (w.alloc (.cells #[.string ck, .int .i64 cn] 55)).heap.size := by have := HB.out; simp; omega
      exact (Below.refl B _).alloc h1 _
  case round =>
    obtain ⟨k, n, so', sc', hkm, rfl, rfl, rfl, HW, HBB⟩ := hrel
    have hww : Below w.heap.size w wr := ((Below.refl _ w).alloc (Nat.le_refl _) _).trans (HBB.out.mono (by have := HB.out; omega))
    have BK : Hid (wr.heap[w.heap.size]? = some (.cells #[.string ck, .int .i64 cn] 55 (0, 0))) := blk_below (blk_new w _) HBB.out (by have := HB.out; omega)
    obtain ⟨D, hD⟩ : ∃ D, D = (l.take k).any (fun x => ltOf cfC (ck, cn) x) := ⟨_, rfl⟩
    rw [← hD] at HW
    rw [← hD]
    have HD := Lib.hid hD
    clear hD
    by_cases hkn : k < l.length
    · obtain ⟨b, f, d, q1, hb1, e1⟩ := CK.RowK.cell HR.out hkn
      cases q1
      obtain ⟨⟨xk, xn⟩, hx⟩ : ∃ c : Cn, c = l[k] := ⟨_, rfl⟩
      rw [← hx] at e1
      have A0 : Hid ((w.alloc (.cells #[.string ck, .int .i64 cn] 55)).cell? ⟨b, f + k * 2, none⟩ = some (.string xk)) := (((Below.refl _ w).alloc (Nat.le_refl _) _).cell (p := ⟨b, f + k * 2, none⟩) hb1).trans ((e1 0 (by omega)).trans rfl)
      have A1 : Hid ((w.alloc (.cells #[.string ck, .int .i64 cn] 55)).cell? ⟨b, f + k * 2 + 1, none⟩ = some (.int .i64 xn)) := (((Below.refl _ w).alloc (Nat.le_refl _) _).cell (p := ⟨b, f + k * 2 + 1, none⟩) hb1).trans ((e1 1 (by omega)).trans rfl)
      have HTK : Hid (l.take (k + 1) = l.take k ++ [(xk, xn)]) := by rw [hx]; exact List.take_succ_eq_append_getElem hkn
      have BKd : Hid (wr.drew.heap[w.heap.size]? = some (.cells #[.string ck, .int .i64 cn] 55 (0, 0))) := BK.out
      have HBBd : Hid (Below B (w.alloc (.cells #[.string ck, .int .i64 cn] 55)) wr.drew) := HBB.out.drew
      have HBL : Hid (b < B) := by show b < B; have := HB.out; omega
      clear e1 hx hww
      cases D
      · simp only [Bool.false_eq_true, if_false] at HW
        have hnk : n ≤ k + 1 := by have := HW.out.1; rw [CK.flat_len encC_len, List.length_take] at this; omega
        have HWd : Hid (wr.drew.ownsRow B 55 2 (.slice so' n sc') n ((l.take k).flatMap encC)) := HW.out
        cases hlt : ltOf cfC (ck, cn) (xk, xn)
        · have HLT := Lib.hid hlt
          clear hlt
          go_wp2_with fail
          clear HW HBB BK
          have HW := HWd
          have HBB := HBBd
          have BK := BKd
          refine start_ (n := 10) (S := fun w' => w'.cell? ⟨w.heap.size, 0, none⟩ = some (.string ck) ∧ w'.cell? ⟨w.heap.size, 1, none⟩ = some (.int .i64 cn) ∧ w'.cell? ⟨b, f + k * 2, none⟩ = some (.string xk) ∧ w'.cell? ⟨b, f + k * 2 + 1, none⟩ = some (.int .i64 xn)) (ds := []) #[false, false, false, false, false, false, false, false, false, false] (by kernel_rfl) rfl rfl ⟨(blk_cell BK.out 0), (blk_cell BK.out 1), ((HBB.out.cell (p := ⟨b, f + k * 2, none⟩) HBL.out).trans A0.out), ((HBB.out.cell (p := ⟨b, f + k * 2 + 1, none⟩) HBL.out).trans A1.out)⟩ (fun hHeld => ?_)
          refine pure_ (i := 0) (N := some 15) (v := ?_) (a' := ?_) #[true, false, false, false, false, false, false, false, false, false] rfl rfl (by kernel_rfl) (fun _ _ _ h => h) (Or.inl ⟨by rfl, ?_⟩) ?_ ?_
          rotate_left
          · intro w'
            go_simp
            with_reducible rfl
          rotate_left
          · simp only [Act.put, List.setIfInBounds_toArray, List.set_cons_zero, List.set_cons_succ, i64_w, i32_w]
            rfl
          refine pure_ (i := 1) (N := some 16) (v := ?_) (a' := ?_) #[true, true, false, false, false, false, false, false, false, false] rfl rfl (by kernel_rfl) (fun _ _ _ h => h) (Or.inl ⟨by rfl, ?_⟩) ?_ ?_
          rotate_left
          · intro w'
            go_simp
            with_reducible rfl
          rotate_left
          · simp only [Act.put, List.setIfInBounds_toArray, List.set_cons_zero, List.set_cons_succ, i64_w, i32_w]
            rfl
          refine pure_ (i := 2) (N := some 17) (v := ?_) (a' := ?_) #[true, true, true, false, false, false, false, false, false, false] rfl rfl (by kernel_rfl) (fun _ _ _ h => h) (Or.inl ⟨by rfl, ?_⟩) ?_ ?_
          rotate_left
          · intro w'
            go_simp
            with_reducible rfl
          rotate_left
          · simp only [Act.put, List.setIfInBounds_toArray, List.set_cons_zero, List.set_cons_succ, i64_w, i32_w]
            rfl
          refine pure_ (i := 4) (N := some 19) (v := ?_) (a' := ?_) #[true, true, true, false, true, false, false, false, false, false] rfl rfl (by kernel_rfl) (fun _ _ _ h => h) (Or.inl ⟨by rfl, ?_⟩) ?_ ?_
          rotate_left
          · intro w'
            go_simp
            with_reducible rfl
          rotate_left
          · simp only [Act.put, List.setIfInBounds_toArray, List.set_cons_zero, List.set_cons_succ, i64_w, i32_w]
            rfl
          refine pure_ (i := 5) (N := some 20) (v := ?_) (a' := ?_) #[true, true, true, false, true, true, false, false, false, false] rfl rfl (by kernel_rfl) (fun _ _ _ h => h) (Or.inl ⟨by rfl, ?_⟩) ?_ ?_
          rotate_left
          · intro w'
            go_simp
            with_reducible rfl
          rotate_left
          · simp only [Act.put, List.setIfInBounds_toArray, List.set_cons_zero, List.set_cons_succ, i64_w, i32_w]
            rfl
          refine pure_ (i := 6) (N := some 21) (v := ?_) (a' := ?_) #[true, true, true, false, true, true, true, false, false, false] rfl rfl (by kernel_rfl) (fun _ _ _ h => h) (Or.inl ⟨by rfl, ?_⟩) ?_ ?_
          rotate_left
          · intro w'
            go_simp
            with_reducible rfl
          rotate_left
          · simp only [Act.put, List.setIfInBounds_toArray, List.set_cons_zero, List.set_cons_succ, i64_w, i32_w]
            rfl
          refine take_ (i := 3) (N := some 18) (v := ?_) (a' := ?_) #[true, true, true, true, true, true, true, false, false, false] rfl rfl (by kernel_rfl) (fun _ _ _ h => h) (Or.inl ⟨by rfl, ?_⟩) hHeld ?_ ?_
          rotate_left
          · rintro w' ⟨s0, s1, s2, s3⟩
            go_simp
            with_reducible rfl
          rotate_left
          · simp only [Act.put, List.setIfInBounds_toArray, List.set_cons_zero, List.set_cons_succ, i64_w, i32_w]
            rfl
          refine take_ (i := 7) (N := some 22) (v := ?_) (a' := ?_) #[true, true, true, true, true, true, true, true, false, false] rfl rfl (by kernel_rfl) (fun _ _ _ h => h) (Or.inl ⟨by rfl, ?_⟩) hHeld ?_ ?_
          rotate_left
          · rintro w' ⟨s0, s1, s2, s3⟩
            go_simp
            with_reducible rfl
          rotate_left
          · simp only [Act.put, List.setIfInBounds_toArray, List.set_cons_zero, List.set_cons_succ, i64_w, i32_w]
            rfl
          refine one_ (i := 8) (N := some 23) #[true, true, true, true, true, true, true, true, true, false] rfl rfl (by kernel_rfl) (by decide) (fun K hK => ?_)
          refine goes_ Try.func30 (by kernel_rfl) rfl #[.agg #[.string ck, .int .i64 cn], .agg #[.string xk, .int .i64 xn]] (by rfl) rfl rfl (by (try simp only [List.map_toArray, List.map_cons, List.map_nil]); first | done | rfl) ?_
          with_reducible refine (less_calls (ck, cn) (xk, xn) _).mono ?_
          rintro e w3 ⟨rfl, hb⟩
          refine ⟨_, rfl, ?_⟩
          rw [HLT.out]
          have HW := Lib.hid (ownsRow_same HW.out fun j _ hj => hb.block j hj)
          have HBB := Lib.hid (HBB.out.trans ((show Below _ _ _ from hb).mono (Nat.le_trans HBZ.out HBB.out.size)))
          have BK := Lib.hid (blk_below BK.out hb (blk_lt BK.out))
          clear hb
          refine hK.out _ _ ⟨(blk_cell BK.out 0), (blk_cell BK.out 1), ((HBB.out.cell (p := ⟨b, f + k * 2, none⟩) HBL.out).trans A0.out), ((HBB.out.cell (p := ⟨b, f + k * 2 + 1, none⟩) HBL.out).trans A1.out)⟩ (fun hHeld => ?_)
          clear hK K
          refine norm_ (a' := ?_) ?_ ?_
          rotate_left
          · show Act.put _ (some 23) _ = _
            simp only [Act.put, List.setIfInBounds_toArray, List.set_cons_zero, List.set_cons_succ, i64_w, i32_w]
            rfl
          refine pure_ (i := 9) (N := some 24) (v := ?_) (a' := ?_) #[true, true, true, true, true, true, true, true, true, true] rfl rfl (by kernel_rfl) (fun _ _ _ h => h) (Or.inl ⟨by rfl, ?_⟩) ?_ ?_
          rotate_left
          · intro w'
            go_simp
            with_reducible rfl
          rotate_left
          · simp only [Act.put, List.setIfInBounds_toArray, List.set_cons_zero, List.set_cons_succ, i64_w, i32_w]
            rfl
          refine done_ (by kernel_rfl) ?_
          clear hHeld
          have a0 := (HBB.out.cell (p := ⟨b, f + k * 2, none⟩) HBL.out).trans A0.out
          have a1 := (HBB.out.cell (p := ⟨b, f + k * 2 + 1, none⟩) HBL.out).trans A1.out
          go_wp2_with (at_builtin; refine wpList_append_own _ rfl _ _ 48 rfl B 55 i0 (.agg #[.string ⟨#[]⟩, .int .i64 0]) 2 24 Try.underlying48 hi hz0 hz1 hz2 rfl (by decide) _ _ _ rfl (HW.out.alloc _) ⟨w3.heap.size, 0, none⟩ 1 1 [.string xk, .int .i64 xn] rfl rfl ?c1 ?c2 ?c3 ?c4 ?c5 ?_)
          case c1 => exact cell_two_newC _ _ _
          case c2 => exact fun x hx => by simp at hx; rcases hx with rfl | rfl <;> rfl
          case c3 => unfold maxLen; omega
          case c4 => omega
          case c5 => have := Nat.le_trans HBZ.out HBB.out.size; (try simp at this); simp; omega
          intro v' w4 hown' hgrow _
          have hb4 : Below B w3 w4 := below_append HW.out (Nat.le_trans HBZ.out HBB.out.size) hgrow
          have HW := Lib.hid hown'
          have HBB := Lib.hid (HBB.out.trans hb4)
          clear hown' hgrow hb4
          obtain ⟨so', sc', rfl⟩ := ownsRow_shape HW.out
          go_wp2
          go_roundg (l.length - (k + 1))
          case measure => omega
          case rel =>
            have hany : (l.take (k + 1)).any (fun x => ltOf cfC (ck, cn) x) = false := by rw [HTK.out, List.any_append, ← HD.out]; simp [HLT.out]
            refine ⟨k + 1, n + 1, _, _, by omega, by go_num, by rw [hany], rfl, ?_, HBB⟩
            show World.ownsRow _ _ _ _ _ _ _
            rw [hany, if_neg (by simp), HTK.out, List.flatMap_append]
            exact HW.out
        · have HLT := Lib.hid hlt
          clear hlt
          go_wp2_with fail
          clear HW HBB BK
          have HW := HWd
          have HBB := HBBd
          have BK := BKd
          refine start_ (n := 10) (S := fun w' => w'.cell? ⟨w.heap.size, 0, none⟩ = some (.string ck) ∧ w'.cell? ⟨w.heap.size, 1, none⟩ = some (.int .i64 cn) ∧ w'.cell? ⟨b, f + k * 2, none⟩ = some (.string xk) ∧ w'.cell? ⟨b, f + k * 2 + 1, none⟩ = some (.int .i64 xn)) (ds := []) #[false, false, false, false, false, false, false, false, false, false] (by kernel_rfl) rfl rfl ⟨(blk_cell BK.out 0), (blk_cell BK.out 1), ((HBB.out.cell (p := ⟨b, f + k * 2, none⟩) HBL.out).trans A0.out), ((HBB.out.cell (p := ⟨b, f + k * 2 + 1, none⟩) HBL.out).trans A1.out)⟩ (fun hHeld => ?_)
          refine pure_ (i := 0) (N := some 15) (v := ?_) (a' := ?_) #[true, false, false, false, false, false, false, false, false, false] rfl rfl (by kernel_rfl) (fun _ _ _ h => h) (Or.inl ⟨by rfl, ?_⟩) ?_ ?_
          rotate_left
          · intro w'
            go_simp
            with_reducible rfl
          rotate_left
          · simp only [Act.put, List.setIfInBounds_toArray, List.set_cons_zero, List.set_cons_succ, i64_w, i32_w]
            rfl
          refine pure_ (i := 1) (N := some 16) (v := ?_) (a' := ?_) #[true, true, false, false, false, false, false, false, false, false] rfl rfl (by kernel_rfl) (fun _ _ _ h => h) (Or.inl ⟨by rfl, ?_⟩) ?_ ?_
          rotate_left
          · intro w'
            go_simp
            with_reducible rfl
          rotate_left
          · simp only [Act.put, List.setIfInBounds_toArray, List.set_cons_zero, List.set_cons_succ, i64_w, i32_w]
            rfl
          refine pure_ (i := 2) (N := some 17) (v := ?_) (a' := ?_) #[true, true, true, false, false, false, false, false, false, false] rfl rfl (by kernel_rfl) (fun _ _ _ h => h) (Or.inl ⟨by rfl, ?_⟩) ?_ ?_
          rotate_left
          · intro w'
            go_simp
            with_reducible rfl
          rotate_left
          · simp only [Act.put, List.setIfInBounds_toArray, List.set_cons_zero, List.set_cons_succ, i64_w, i32_w]
            rfl
          refine pure_ (i := 4) (N := some 19) (v := ?_) (a' := ?_) #[true, true, true, false, true, false, false, false, false, false] rfl rfl (by kernel_rfl) (fun _ _ _ h => h) (Or.inl ⟨by rfl, ?_⟩) ?_ ?_
          rotate_left
          · intro w'
            go_simp
            with_reducible rfl
          rotate_left
          · simp only [Act.put, List.setIfInBounds_toArray, List.set_cons_zero, List.set_cons_succ, i64_w, i32_w]
            rfl
          refine pure_ (i := 5) (N := some 20) (v := ?_) (a' := ?_) #[true, true, true, false, true, true, false, false, false, false] rfl rfl (by kernel_rfl) (fun _ _ _ h => h) (Or.inl ⟨by rfl, ?_⟩) ?_ ?_
          rotate_left
          · intro w'
            go_simp
            with_reducible rfl
          rotate_left
          · simp only [Act.put, List.setIfInBounds_toArray, List.set_cons_zero, List.set_cons_succ, i64_w, i32_w]
            rfl
          refine pure_ (i := 6) (N := some 21) (v := ?_) (a' := ?_) #[true, true, true, false, true, true, true, false, false, false] rfl rfl (by kernel_rfl) (fun _ _ _ h => h) (Or.inl ⟨by rfl, ?_⟩) ?_ ?_
          rotate_left
          · intro w'
            go_simp
            with_reducible rfl
          rotate_left
          · simp only [Act.put, List.setIfInBounds_toArray, List.set_cons_zero, List.set_cons_succ, i64_w, i32_w]
            rfl
          refine take_ (i := 3) (N := some 18) (v := ?_) (a' := ?_) #[true, true, true, true, true, true, true, false, false, false] rfl rfl (by kernel_rfl) (fun _ _ _ h => h) (Or.inl ⟨by rfl, ?_⟩) hHeld ?_ ?_
          rotate_left
          · rintro w' ⟨s0, s1, s2, s3⟩
            go_simp
            with_reducible rfl
          rotate_left
          · simp only [Act.put, List.setIfInBounds_toArray, List.set_cons_zero, List.set_cons_succ, i64_w, i32_w]
            rfl
          refine take_ (i := 7) (N := some 22) (v := ?_) (a' := ?_) #[true, true, true, true, true, true, true, true, false, false] rfl rfl (by kernel_rfl) (fun _ _ _ h => h) (Or.inl ⟨by rfl, ?_⟩) hHeld ?_ ?_
          rotate_left
          · rintro w' ⟨s0, s1, s2, s3⟩
            go_simp
            with_reducible rfl
          rotate_left
          · simp only [Act.put, List.setIfInBounds_toArray, List.set_cons_zero, List.set_cons_succ, i64_w, i32_w]
            rfl
          refine one_ (i := 8) (N := some 23) #[true, true, true, true, true, true, true, true, true, false] rfl rfl (by kernel_rfl) (by decide) (fun K hK => ?_)
          refine goes_ Try.func30 (by kernel_rfl) rfl #[.agg #[.string ck, .int .i64 cn], .agg #[.string xk, .int .i64 xn]] (by rfl) rfl rfl (by (try simp only [List.map_toArray, List.map_cons, List.map_nil]); first | done | rfl) ?_
          with_reducible refine (less_calls (ck, cn) (xk, xn) _).mono ?_
          rintro e w3 ⟨rfl, hb⟩
          refine ⟨_, rfl, ?_⟩
          rw [HLT.out]
          have HW := Lib.hid (ownsRow_same HW.out fun j _ hj => hb.block j hj)
          have HBB := Lib.hid (HBB.out.trans ((show Below _ _ _ from hb).mono (Nat.le_trans HBZ.out HBB.out.size)))
          have BK := Lib.hid (blk_below BK.out hb (blk_lt BK.out))
          clear hb
          refine hK.out _ _ ⟨(blk_cell BK.out 0), (blk_cell BK.out 1), ((HBB.out.cell (p := ⟨b, f + k * 2, none⟩) HBL.out).trans A0.out), ((HBB.out.cell (p := ⟨b, f + k * 2 + 1, none⟩) HBL.out).trans A1.out)⟩ (fun hHeld => ?_)
          clear hK K
          refine norm_ (a' := ?_) ?_ ?_
          rotate_left
          · show Act.put _ (some 23) _ = _
            simp only [Act.put, List.setIfInBounds_toArray, List.set_cons_zero, List.set_cons_succ, i64_w, i32_w]
            rfl
          refine pure_ (i := 9) (N := some 24) (v := ?_) (a' := ?_) #[true, true, true, true, true, true, true, true, true, true] rfl rfl (by kernel_rfl) (fun _ _ _ h => h) (Or.inl ⟨by rfl, ?_⟩) ?_ ?_
          rotate_left
          · intro w'
            go_simp
            with_reducible rfl
          rotate_left
          · simp only [Act.put, List.setIfInBounds_toArray, List.set_cons_zero, List.set_cons_succ, i64_w, i32_w]
            rfl
          refine done_ (by kernel_rfl) ?_
          clear hHeld
          have c0 := (blk_cell BK.out 0).trans rfl
          have c1 := (blk_cell BK.out 1).trans rfl
          go_wp2_with (at_builtin; refine wpList_append_own _ rfl _ _ 48 rfl B 55 i0 (.agg #[.string ⟨#[]⟩, .int .i64 0]) 2 24 Try.underlying48 hi hz0 hz1 hz2 rfl (by decide) _ _ _ rfl (HW.out.alloc _) ⟨w3.heap.size, 0, none⟩ 1 1 [.string ck, .int .i64 cn] rfl rfl ?c1 ?c2 ?c3 ?c4 ?c5 ?_)
          case c1 => exact cell_two_newC _ _ _
          case c2 => exact fun x hx => by simp at hx; rcases hx with rfl | rfl <;> rfl
          case c3 => unfold maxLen; omega
          case c4 => omega
          case c5 => have := Nat.le_trans HBZ.out HBB.out.size; (try simp at this); simp; omega
          intro v' w4 hown' hgrow _
          have hb4 : Below B w3 w4 := below_append HW.out (Nat.le_trans HBZ.out HBB.out.size) hgrow
          have HW := Lib.hid hown'
          have HBB := Lib.hid (HBB.out.trans hb4)
          clear hown' hgrow hb4
          obtain ⟨so', sc', rfl⟩ := ownsRow_shape HW.out
          clear c0 c1
          have a0 := (HBB.out.cell (p := ⟨b, f + k * 2, none⟩) HBL.out).trans A0.out
          have a1 := (HBB.out.cell (p := ⟨b, f + k * 2 + 1, none⟩) HBL.out).trans A1.out
          go_wp2_with (at_builtin; refine wpList_append_own _ rfl _ _ 48 rfl B 55 i0 (.agg #[.string ⟨#[]⟩, .int .i64 0]) 2 24 Try.underlying48 hi hz0 hz1 hz2 rfl (by decide) _ _ _ rfl (HW.out.alloc _) ⟨w4.heap.size, 0, none⟩ 1 1 [.string xk, .int .i64 xn] rfl rfl ?c1 ?c2 ?c3 ?c4 ?c5 ?_)
          case c1 => exact cell_two_newC _ _ _
          case c2 => exact fun x hx => by simp at hx; rcases hx with rfl | rfl <;> rfl
          case c3 => unfold maxLen; omega
          case c4 => omega
          case c5 => have := Nat.le_trans HBZ.out HBB.out.size; (try simp at this); simp; omega
          intro v' w5 hown' hgrow _
          have hb4 : Below B w4 w5 := below_append HW.out (Nat.le_trans HBZ.out HBB.out.size) hgrow
          have HW := Lib.hid hown'
          have HBB := Lib.hid (HBB.out.trans hb4)
          clear hown' hgrow hb4
          obtain ⟨so', sc', rfl⟩ := ownsRow_shape HW.out
          go_wp2
          go_roundg (l.length - (k + 1))
          case measure => omega
          case rel =>
            have hany : (l.take (k + 1)).any (fun x => ltOf cfC (ck, cn) x) = true := by rw [HTK.out, List.any_append]; simp [HLT.out]
            refine ⟨k + 1, n + 1 + 1, _, _, by omega, by go_num, by rw [hany], rfl, ?_, HBB⟩
            show World.ownsRow _ _ _ _ _ _ _
            rw [hany, if_pos rfl, HTK.out, putC_at HD.out.symm HLT.out, List.flatMap_append]
            exact HW.out
      · simp only [if_true] at HW
        have hnk : n ≤ k + 1 := by have := HW.out.1; rw [CK.flat_len encC_len, (putC_perm _ _).length_eq, List.length_cons, List.length_take] at this; omega
        have HWd : Hid (wr.drew.ownsRow B 55 2 (.slice so' n sc') n ((putC (ck, cn) (l.take k)).flatMap encC)) := HW.out
        go_wp2_with fail
        clear HW HBB BK
        have HW := HWd
        have HBB := HBBd
        have BK := BKd
        refine start_ (n := 10) (S := fun w' => w'.cell? ⟨w.heap.size, 0, none⟩ = some (.string ck) ∧ w'.cell? ⟨w.heap.size, 1, none⟩ = some (.int .i64 cn) ∧ w'.cell? ⟨b, f + k * 2, none⟩ = some (.string xk) ∧ w'.cell? ⟨b, f + k * 2 + 1, none⟩ = some (.int .i64 xn)) (ds := []) #[false, false, false, false, false, false, false, false, false, false] (by kernel_rfl) rfl rfl ⟨(blk_cell BK.out 0), (blk_cell BK.out 1), ((HBB.out.cell (p := ⟨b, f + k * 2, none⟩) HBL.out).trans A0.out), ((HBB.out.cell (p := ⟨b, f + k * 2 + 1, none⟩) HBL.out).trans A1.out)⟩ (fun hHeld => ?_)
        refine pure_ (i := 0) (N := some 15) (v := ?_) (a' := ?_) #[true, false, false, false, false, false, false, false, false, false] rfl rfl (by kernel_rfl) (fun _ _ _ h => h) (Or.inl ⟨by rfl, ?_⟩) ?_ ?_
        rotate_left
        · intro w'
          go_simp
          with_reducible rfl
        rotate_left
        · simp only [Act.put, List.setIfInBounds_toArray, List.set_cons_zero, List.set_cons_succ, i64_w, i32_w]
          rfl
        refine pure_ (i := 1) (N := some 16) (v := ?_) (a' := ?_) #[true, true, false, false, false, false, false, false, false, false] rfl rfl (by kernel_rfl) (fun _ _ _ h => h) (Or.inl ⟨by rfl, ?_⟩) ?_ ?_
        rotate_left
        · intro w'
          go_simp
          with_reducible rfl
        rotate_left
        · simp only [Act.put, List.setIfInBounds_toArray, List.set_cons_zero, List.set_cons_succ, i64_w, i32_w]
          rfl
        refine pure_ (i := 2) (N := some 17) (v := ?_) (a' := ?_) #[true, true, true, false, false, false, false, false, false, false] rfl rfl (by kernel_rfl) (fun _ _ _ h => h) (Or.inl ⟨by rfl, ?_⟩) ?_ ?_
        rotate_left
        · intro w'
          go_simp
          with_reducible rfl
        rotate_left
        · simp only [Act.put, List.setIfInBounds_toArray, List.set_cons_zero, List.set_cons_succ, i64_w, i32_w]
          rfl
        refine pure_ (i := 3) (N := some 18) (v := undef) (a' := ?_) #[true, true, true, true, false, false, false, false, false, false] rfl rfl (by kernel_rfl) (fun _ _ _ h => h) (Or.inr ⟨by rfl, rfl⟩) ?_ ?_
        rotate_left
        · simp only [Act.put, List.setIfInBounds_toArray, List.set_cons_zero, List.set_cons_succ, i64_w, i32_w]
          rfl
        refine pure_ (i := 4) (N := some 19) (v := undef) (a' := ?_) #[true, true, true, true, true, false, false, false, false, false] rfl rfl (by kernel_rfl) (fun _ _ _ h => h) (Or.inr ⟨by rfl, rfl⟩) ?_ ?_
        rotate_left
        · simp only [Act.put, List.setIfInBounds_toArray, List.set_cons_zero, List.set_cons_succ, i64_w, i32_w]
          rfl
        refine pure_ (i := 5) (N := some 20) (v := undef) (a' := ?_) #[true, true, true, true, true, true, false, false, false, false] rfl rfl (by kernel_rfl) (fun _ _ _ h => h) (Or.inr ⟨by rfl, rfl⟩) ?_ ?_
        rotate_left
        · simp only [Act.put, List.setIfInBounds_toArray, List.set_cons_zero, List.set_cons_succ, i64_w, i32_w]
          rfl
        refine pure_ (i := 6) (N := some 21) (v := undef) (a' := ?_) #[true, true, true, true, true, true, true, false, false, false] rfl rfl (by kernel_rfl) (fun _ _ _ h => h) (Or.inr ⟨by rfl, rfl⟩) ?_ ?_
        rotate_left
        · simp only [Act.put, List.setIfInBounds_toArray, List.set_cons_zero, List.set_cons_succ, i64_w, i32_w]
          rfl
        refine pure_ (i := 7) (N := some 22) (v := undef) (a' := ?_) #[true, true, true, true, true, true, true, true, false, false] rfl rfl (by kernel_rfl) (fun _ _ _ h => h) (Or.inr ⟨by rfl, rfl⟩) ?_ ?_
        rotate_left
        · simp only [Act.put, List.setIfInBounds_toArray, List.set_cons_zero, List.set_cons_succ, i64_w, i32_w]
          rfl
        refine pure_ (i := 8) (N := some 23) (v := undef) (a' := ?_) #[true, true, true, true, true, true, true, true, true, false] rfl rfl (by kernel_rfl) (fun _ _ _ h => h) (Or.inr ⟨by rfl, rfl⟩) ?_ ?_
        rotate_left
        · simp only [Act.put, List.setIfInBounds_toArray, List.set_cons_zero, List.set_cons_succ, i64_w, i32_w]
          rfl
        refine pure_ (i := 9) (N := some 24) (v := ?_) (a' := ?_) #[true, true, true, true, true, true, true, true, true, true] rfl rfl (by kernel_rfl) (fun _ _ _ h => h) (Or.inl ⟨by rfl, ?_⟩) ?_ ?_
        rotate_left
        · intro w'
          go_simp
          with_reducible rfl
        rotate_left
        · simp only [Act.put, List.setIfInBounds_toArray, List.set_cons_zero, List.set_cons_succ, i64_w, i32_w]
          rfl
        refine done_ (by kernel_rfl) ?_
        clear hHeld
        have a0 := (HBB.out.cell (p := ⟨b, f + k * 2, none⟩) HBL.out).trans A0.out
        have a1 := (HBB.out.cell (p := ⟨b, f + k * 2 + 1, none⟩) HBL.out).trans A1.out
        go_wp2_with (at_builtin; refine wpList_append_own _ rfl _ _ 48 rfl B 55 i0 (.agg #[.string ⟨#[]⟩, .int .i64 0]) 2 24 Try.underlying48 hi hz0 hz1 hz2 rfl (by decide) _ _ _ rfl (HW.out.alloc _) ⟨wr.drew.heap.size, 0, none⟩ 1 1 [.string xk, .int .i64 xn] rfl rfl ?c1 ?c2 ?c3 ?c4 ?c5 ?_)
        case c1 => exact cell_two_newC _ _ _
        case c2 => exact fun x hx => by simp at hx; rcases hx with rfl | rfl <;> rfl
        case c3 => unfold maxLen; omega
        case c4 => omega
        case c5 => have := Nat.le_trans HBZ.out HBB.out.size; (try simp at this); simp; omega
        intro v' w5 hown' hgrow _
        have hb4 : Below B wr.drew w5 := below_append HW.out (Nat.le_trans HBZ.out HBB.out.size) hgrow
        have HW := Lib.hid hown'
        have HBB := Lib.hid (HBB.out.trans hb4)
        clear hown' hgrow hb4
        obtain ⟨so', sc', rfl⟩ := ownsRow_shape HW.out
        go_wp2
        go_roundg (l.length - (k + 1))
        case measure => omega
        case rel =>
          have hany : (l.take (k + 1)).any (fun x => ltOf cfC (ck, cn) x) = true := by rw [HTK.out, List.any_append, ← HD.out]; rfl
          refine ⟨k + 1, n + 1, _, _, by omega, by go_num, by rw [hany], rfl, ?_, HBB⟩
          show World.ownsRow _ _ _ _ _ _ _
          rw [hany, if_pos rfl, HTK.out, putC_yes HD.out.symm, List.flatMap_append]
          exact HW.out
    · obtain rfl : k = l.length := by omega
      have HD : Hid (D = l.any (fun x => ltOf cfC (ck, cn) x)) := by have := HD.out; rw [List.take_length] at this; exact this
      rw [List.take_length] at HW
      have HLw : Hid (w.heap.size ≤ B) := by show w.heap.size ≤ B; have := HB.out; omega
      clear hww
      cases D
      · simp only [Bool.false_eq_true, if_false] at HW
        have hnk : n ≤ l.length := by have := HW.out.1; rw [CK.flat_len encC_len] at this; omega
        have c0 := (blk_cell BK.out 0).trans rfl
        have c1 := (blk_cell BK.out 1).trans rfl
        go_wp2_with (at_builtin; refine wpList_append_own _ rfl _ _ 48 rfl B 55 i0 (.agg #[.string ⟨#[]⟩, .int .i64 0]) 2 24 Try.underlying48 hi hz0 hz1 hz2 rfl (by decide) _ _ _ rfl (HW.out.alloc _) ⟨wr.heap.size, 0, none⟩ 1 1 [.string ck, .int .i64 cn] rfl rfl ?c1 ?c2 ?c3 ?c4 ?c5 ?_)
        case c1 => exact cell_two_newC _ _ _
        case c2 => exact fun x hx => by simp at hx; rcases hx with rfl | rfl <;> rfl
        case c3 => unfold maxLen; omega
        case c4 => omega
        case c5 => have := Nat.le_trans HBZ.out HBB.out.size; (try simp at this); simp; omega
        intro v' w5 hown' hgrow _
        have hb4 : Below B wr w5 := below_append HW.out (Nat.le_trans HBZ.out HBB.out.size) hgrow
        have HW := Lib.hid hown'
        have HBB := Lib.hid (HBB.out.trans hb4)
        clear hown' hgrow hb4
        obtain ⟨so', sc', rfl⟩ := ownsRow_shape HW.out
        go_wp2
        go_ret
        refine ⟨_, rfl, ?_, ((Below.refl _ w).alloc (Nat.le_refl _) _).trans (HBB.out.mono HLw.out)⟩
        rw [putC_no HD.out.symm]
        have hlen : n + 1 = (l ++ [(ck, cn)]).length := by have := HW.out.1; rw [List.length_append, CK.flat_len encC_len] at this; simp at this ⊢; omega
        have h2 := HW.out
        rw [hlen] at h2 ⊢
        exact CK.rowK_of_own encC_len (by rw [List.flatMap_append]; exact h2)
      · simp only [if_true] at HW
        go_wp2
        go_ret
        refine ⟨_, rfl, ?_, ((Below.refl _ w).alloc (Nat.le_refl _) _).trans (HBB.out.mono HLw.out)⟩
        have h2 := HW.out
        have hlen : n = (putC (ck, cn) l).length := by have := h2.1; rw [CK.flat_len encC_len] at this; omega
        rw [hlen] at h2 ⊢
        exact CK.rowK_of_own encC_len h2
end Go.Proofs.Ytmddlbgdmdepdaa
