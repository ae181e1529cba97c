/- The contract of the document's All of rises, by a walk. No condition. -/
import Derived.Test.YtmddlbgdmdepdaaRiP
import Derived.Test.YtmddlbgdmdepdaaRefD
set_option linter.unusedVariables false
set_option linter.unusedSimpArgs false
set_option maxRecDepth 100000
namespace Go.Proofs.Ytmddlbgdmdepdaa
open Go.Maps Go.MapKept Go.RowKit Go.ChangeMaps Go.Shelf CK Go.Proofs.YtmddlbgdmdepdaaW.PrintLast

/-- the rises of all keys, those ahead first -/
def refR (g : ByteArray → Rz) (fl : Int) (l : List Add) : List Add → List Rz → List Rz
  | [], out => out
  | a :: r, out => refR g fl (l ++ [a]) r (if !(l.any fun x => decide (x.key = a.key)) && decide (1 ≤ (g a.key).nw) && decide (fl ≤ (g a.key).nw) then putBy cfZ (g a.key) out else out)
theorem refR_snoc (g : ByteArray → Rz) (fl : Int) (r : List Add) (a : Add) (l : List Add) (out : List Rz) :
    refR g fl l (r ++ [a]) out = if !((l ++ r).any fun x => decide (x.key = a.key)) && decide (1 ≤ (g a.key).nw) && decide (fl ≤ (g a.key).nw) then putBy cfZ (g a.key) (refR g fl l r out) else refR g fl l r out := by
  induction r generalizing l out with
  | nil => simp [refR]
  | cons x s ih => rw [List.cons_append, refR, ih, refR, List.append_assoc]; rfl
theorem refR_len (g : ByteArray → Rz) (fl : Int) (r : List Add) (l : List Add) (out : List Rz) : (refR g fl l r out).length ≤ out.length + r.length := by
  induction r generalizing l out with
  | nil => simp [refR]
  | cons x s ih =>
    rw [refR]
    refine Nat.le_trans (ih _ _) ?_
    split
    · rw [(putBy_perm _ _).length_eq]; simp; omega
    · simp
theorem refR_mem {g : ByteArray → Rz} {fl : Int} {r : List Add} {l : List Add} {out : List Rz} {x : Rz} (h : x ∈ refR g fl l r out) : x ∈ out ∨ ∃ k, x = g k := by
  induction r generalizing l out with
  | nil => exact .inl h
  | cons a s ih =>
    rw [refR] at h
    rcases ih h with h1 | h1
    · split at h1
      · rcases putBy_mem.1 h1 with rfl | h2
        · exact .inr ⟨_, rfl⟩
        · exact .inl h2
      · exact .inl h1
    · exact .inr h1
theorem riseOf_ok (l : List Add) (hl : l.length ≤ 60) (wd sp now : Int) (k : ByteArray) : (riseOf l wd sp now k).ok := by
  have h1 := rangeSum_bd l k (now - now % wd - sp) (now - now % wd)
  have h2 := rangeSum_bd l k (now - now % wd - 2 * sp) (now - now % wd - sp)
  refine ⟨h1.1, ?_, h2.1, ?_⟩
  · show rangeSum l k (now - now % wd - sp) (now - now % wd) ≤ _; omega
  · show rangeSum l k (now - now % wd - 2 * sp) (now - now % wd - sp) ≤ _; omega
set_option maxHeartbeats 4000000 in
theorem rall_calls (w : World) (l : List Add) (v : Value) (wd sp now fl : Int) (h : AddsAt w l v) (hl : l.length ≤ 60) (hw : 1 ≤ wd) :
    Calls Try.prog 36 #[v, .int .i64 wd, .int .i64 sp, .int .i64 now, .int .i64 fl] w (RowPost encZ 3 w (if mayR wd sp now then refR (riseOf l wd sp now) fl [] l [] else [])) := by
  have HL := Lib.hid h
  obtain ⟨so, scap, rfl, hmx⟩ := SliceR.shape h
  have HB : Hid (Below w.heap.size w (w.alloc (.cells #[] 35))) := (Below.refl _ w).alloc (Nat.le_refl _) _
  clear h
  cases hm : mayR wd sp now
  · have HM := Lib.hid hm
    clear hm
    go_enter Try.func36, Try.ntmps36
    go_wp2_with fail
    refine (rmayR_calls _ wd sp now hw).mono ?_
    rintro e w1 ⟨rfl, hb⟩
    rw [HM.out]
    replace HB := Lib.hid (HB.out.trans ((show Below _ _ _ from hb).mono HB.out.size))
    clear hb
    go_wp2
    go_ret
    exact ⟨_, rfl, .inl ⟨by simp, _, _, rfl, Nat.zero_le _⟩, HB.out⟩
  rw [if_pos rfl]
  have HM := Lib.hid hm
  simp only [mayR, Bool.and_eq_true, decide_eq_true_eq] at hm
  obtain ⟨⟨⟨⟨s1, s2⟩, _⟩, n1⟩, n2⟩ := hm
  obtain ⟨G, hG⟩ : ∃ G, G = riseOf l wd sp now := ⟨_, rfl⟩
  rw [← hG]
  have HOK : Hid (∀ k, (G k).ok ∧ (G k).key = k) := fun k => by rw [hG]; exact ⟨riseOf_ok l hl wd sp now k, rfl⟩
  have HGC : Hid (∀ (w : World) (v : Value) (key : ByteArray), AddsAt w l v → Calls Try.prog 61 #[v, .int .i64 wd, .int .i64 sp, .int .i64 now, .string key] w fun e w' => e = .returned (.agg #[.string key, .int .i64 (G key).nw, .int .i64 (G key).od]) ∧ Below w.heap.size w w') := fun w v key h => by
    rw [hG]; exact rof_calls w l v wd sp now key h hl hw s1 s2 n1 n2
  clear hG
  obtain ⟨i0, hi, hz0, hz1, hz2⟩ := info_parts infoRise
  go_enter Try.func36, Try.ntmps36
  go_wp2_with fail
  refine (rmayR_calls _ wd sp now hw).mono ?_
  rintro e w1 ⟨rfl, hb⟩
  rw [HM.out]
  replace HB := Lib.hid (HB.out.trans ((show Below _ _ _ from hb).mono HB.out.size))
  clear hb
  go_wp2
  go_loopg [11, 12] l.length (fun m out i wr => ∃ (k : Nat), k + m = l.length ∧ i = .int .i64 k ∧ Hid (CK.RowK encZ 3 wr (refR G fl [] (l.take k) []) out) ∧ Hid (Below w.heap.size w wr))
  case atStart => exact ⟨0, by omega, rfl, .inl ⟨by simp [refR], _, _, rfl, Nat.zero_le _⟩, HB⟩
  case round =>
    clear HB
    obtain ⟨k, hkm, rfl, HO, HB⟩ := hrel
    by_cases hkn : k < l.length
    · obtain ⟨b, f, d, q1, hb1, hok, e0, e1, e2⟩ := adds_at HL.out hkn
      cases q1
      obtain ⟨a, ha⟩ : ∃ a, a = l[k] := ⟨_, rfl⟩
      rw [← ha] at e0
      have HA := Lib.hid ha
      have HTK : Hid (l.take (k + 1) = l.take k ++ [a]) := by rw [ha]; exact List.take_succ_eq_append_getElem hkn
      have K0 := Lib.hid ((HB.out.cell (p := ⟨b, f + k * 3, none⟩) hb1).trans e0)
      clear e0 e1 e2 hok ha
      go_wp2
      go_loopg [13, 14] k (fun m fi j wr => ∃ q : Nat, q + m = k ∧ j = .int .i64 q ∧ fi = .bool (!((l.take q).any fun x => decide (x.key = a.key))) ∧ Hid (CK.RowK encZ 3 wr (refR G fl [] (l.take k) []) u11) ∧ Hid (Below w.heap.size w wr) ∧ Hid (wr.cell? ⟨b, f + k * 3, none⟩ = some (.string a.key)))
      case atStart => exact ⟨0, by omega, rfl, by simp, HO, HB, K0⟩
      case round =>
        clear HO HB K0
        obtain ⟨q, hqm, rfl, rfl, HO, HB, K0⟩ := hrel
        obtain ⟨D, hD⟩ : ∃ D, D = (l.take q).any (fun x => decide (x.key = a.key)) := ⟨_, rfl⟩
        rw [← hD]
        have HD := Lib.hid hD
        clear hD
        by_cases hqn : q < k
        · have hql : q < l.length := by omega
          obtain ⟨b', f', d', q1, hb1', hok, e0, _, _⟩ := adds_at HL.out hql
          cases q1
          obtain ⟨y, hy⟩ : ∃ y, y = l[q] := ⟨_, rfl⟩
          rw [← hy] at e0
          have HTQ : Hid (l.take (q + 1) = l.take q ++ [y]) := by rw [hy]; exact List.take_succ_eq_append_getElem hql
          have Y0 : Hid (wr.drew.cell? ⟨b, f + q * 3, none⟩ = some (.string y.key)) := (HB.out.cell (p := ⟨b, f + q * 3, none⟩) hb1).trans e0
          have K0d : Hid (wr.drew.cell? ⟨b, f + k * 3, none⟩ = some (.string a.key)) := K0.out
          have HOd : Hid (CK.RowK encZ 3 wr.drew (refR G fl [] (l.take k) []) u11) := HO.out.below (Below.refl _ _).drew
          have HBd : Hid (Below w.heap.size w wr.drew) := HB.out.drew
          obtain ⟨ne, hne⟩ : ∃ ne, (y.key.toList != a.key.toList) = ne := ⟨_, rfl⟩
          have HNE : Hid (decide (y.key = a.key) = !ne) := by
            show _ = _
            rw [← hne, bne, Bool.not_not]
            by_cases h : y.key = a.key
            · simp [h]
            · have : (y.key.toList == a.key.toList) = false := by rw [beq_eq_false_iff_ne]; exact fun h' => h (ba_eq.1 h')
              rw [this]; simpa using h
          have hany : (l.take (q + 1)).any (fun x => decide (x.key = a.key)) = (D || !ne) := by rw [HTQ.out, List.any_append, ← HD.out]; simp [HNE.out]
          have HANY := Lib.hid hany
          clear e0 hy hok hany
          cases D
          · go_wp2_with fail
            refine start_ (n := 15) (S := fun w' => w'.cell? ⟨b, f + q * 3, none⟩ = some (.string y.key) ∧ w'.cell? ⟨b, f + k * 3, none⟩ = some (.string a.key)) (ds := []) #[false, false, false, false, false, false, false, false, false, false, false, false, false, false, false] (by kernel_rfl) rfl rfl ⟨Y0.out, K0d.out⟩ (fun hHeld => ?_)
            refine pure_ (i := 0) (N := some 37) (v := ?_) (a' := ?_) #[true, false, false, false, false, false, false, false, false, false, false, false, false, false, false] rfl rfl (by kernel_rfl) (fun _ _ _ h => h) (Or.inl ⟨by rfl, ?_⟩) ?_ ?_
            rotate_left
            · intro w'
              go_simp
              with_reducible rfl
            rotate_left
            · simp only [Act.put, List.setIfInBounds_toArray, List.set_cons_zero, List.set_cons_succ, i64_w, i32_w]
              rfl
            refine pure_ (i := 1) (N := some 38) (v := ?_) (a' := ?_) #[true, true, false, false, false, false, false, false, false, false, false, false, false, false, false] rfl rfl (by kernel_rfl) (fun _ _ _ h => h) (Or.inl ⟨by rfl, ?_⟩) ?_ ?_
            rotate_left
            · intro w'
              go_simp
              with_reducible rfl
            rotate_left
            · simp only [Act.put, List.setIfInBounds_toArray, List.set_cons_zero, List.set_cons_succ, i64_w, i32_w]
              rfl
            refine pure_ (i := 2) (N := some 39) (v := ?_) (a' := ?_) #[true, true, true, false, false, false, false, false, false, false, false, false, false, false, false] rfl rfl (by kernel_rfl) (fun _ _ _ h => h) (Or.inl ⟨by rfl, ?_⟩) ?_ ?_
            rotate_left
            · intro w'
              go_simp
              with_reducible rfl
            rotate_left
            · simp only [Act.put, List.setIfInBounds_toArray, List.set_cons_zero, List.set_cons_succ, i64_w, i32_w]
              rfl
            refine pure_ (i := 3) (N := some 40) (v := ?_) (a' := ?_) #[true, true, true, true, false, false, false, false, false, false, false, false, false, false, false] rfl rfl (by kernel_rfl) (fun _ _ _ h => h) (Or.inl ⟨by rfl, ?_⟩) ?_ ?_
            rotate_left
            · intro w'
              go_simp
              with_reducible rfl
            rotate_left
            · simp only [Act.put, List.setIfInBounds_toArray, List.set_cons_zero, List.set_cons_succ, i64_w, i32_w]
              rfl
            refine pure_ (i := 4) (N := some 41) (v := ?_) (a' := ?_) #[true, true, true, true, true, false, false, false, false, false, false, false, false, false, false] rfl rfl (by kernel_rfl) (fun _ _ _ h => h) (Or.inl ⟨by rfl, ?_⟩) ?_ ?_
            rotate_left
            · intro w'
              go_simp
              with_reducible rfl
            rotate_left
            · simp only [Act.put, List.setIfInBounds_toArray, List.set_cons_zero, List.set_cons_succ, i64_w, i32_w]
              rfl
            refine pure_ (i := 5) (N := some 42) (v := ?_) (a' := ?_) #[true, true, true, true, true, true, false, false, false, false, false, false, false, false, false] rfl rfl (by kernel_rfl) (fun _ _ _ h => h) (Or.inl ⟨by rfl, ?_⟩) ?_ ?_
            rotate_left
            · intro w'
              go_simp
              with_reducible rfl
            rotate_left
            · simp only [Act.put, List.setIfInBounds_toArray, List.set_cons_zero, List.set_cons_succ, i64_w, i32_w]
              rfl
            refine pure_ (i := 7) (N := some 44) (v := ?_) (a' := ?_) #[true, true, true, true, true, true, false, true, false, false, false, false, false, false, false] rfl rfl (by kernel_rfl) (fun _ _ _ h => h) (Or.inl ⟨by rfl, ?_⟩) ?_ ?_
            rotate_left
            · intro w'
              go_simp
              with_reducible rfl
            rotate_left
            · simp only [Act.put, List.setIfInBounds_toArray, List.set_cons_zero, List.set_cons_succ, i64_w, i32_w]
              rfl
            refine pure_ (i := 8) (N := some 45) (v := ?_) (a' := ?_) #[true, true, true, true, true, true, false, true, true, false, false, false, false, false, false] rfl rfl (by kernel_rfl) (fun _ _ _ h => h) (Or.inl ⟨by rfl, ?_⟩) ?_ ?_
            rotate_left
            · intro w'
              go_simp
              with_reducible rfl
            rotate_left
            · simp only [Act.put, List.setIfInBounds_toArray, List.set_cons_zero, List.set_cons_succ, i64_w, i32_w]
              rfl
            refine pure_ (i := 9) (N := some 46) (v := ?_) (a' := ?_) #[true, true, true, true, true, true, false, true, true, true, false, false, false, false, false] rfl rfl (by kernel_rfl) (fun _ _ _ h => h) (Or.inl ⟨by rfl, ?_⟩) ?_ ?_
            rotate_left
            · intro w'
              go_simp
              with_reducible rfl
            rotate_left
            · simp only [Act.put, List.setIfInBounds_toArray, List.set_cons_zero, List.set_cons_succ, i64_w, i32_w]
              rfl
            refine pure_ (i := 10) (N := some 47) (v := ?_) (a' := ?_) #[true, true, true, true, true, true, false, true, true, true, true, false, false, false, false] rfl rfl (by kernel_rfl) (fun _ _ _ h => h) (Or.inl ⟨by rfl, ?_⟩) ?_ ?_
            rotate_left
            · intro w'
              go_simp
              with_reducible rfl
            rotate_left
            · simp only [Act.put, List.setIfInBounds_toArray, List.set_cons_zero, List.set_cons_succ, i64_w, i32_w]
              rfl
            refine take_ (i := 6) (N := some 43) (v := ?_) (a' := ?_) #[true, true, true, true, true, true, true, true, true, true, true, false, false, false, false] rfl rfl (by kernel_rfl) (fun _ _ _ h => h) (Or.inl ⟨by rfl, ?_⟩) hHeld ?_ ?_
            rotate_left
            · rintro w' ⟨s0, s1⟩
              go_simp
              with_reducible rfl
            rotate_left
            · simp only [Act.put, List.setIfInBounds_toArray, List.set_cons_zero, List.set_cons_succ, i64_w, i32_w]
              rfl
            refine take_ (i := 11) (N := some 48) (v := ?_) (a' := ?_) #[true, true, true, true, true, true, true, true, true, true, true, true, false, false, false] rfl rfl (by kernel_rfl) (fun _ _ _ h => h) (Or.inl ⟨by rfl, ?_⟩) hHeld ?_ ?_
            rotate_left
            · rintro w' ⟨s0, s1⟩
              go_simp
              with_reducible rfl
            rotate_left
            · simp only [Act.put, List.setIfInBounds_toArray, List.set_cons_zero, List.set_cons_succ, i64_w, i32_w]
              rfl
            refine pure_ (i := 12) (N := some 49) (v := ?_) (a' := ?_) #[true, true, true, true, true, true, true, true, true, true, true, true, true, false, false] rfl rfl (by kernel_rfl) (fun _ _ _ h => h) (Or.inl ⟨by rfl, ?_⟩) ?_ ?_
            rotate_left
            · intro w'
              go_simp
              with_reducible rfl
            rotate_left
            · simp only [Act.put, List.setIfInBounds_toArray, List.set_cons_zero, List.set_cons_succ, i64_w, i32_w]
              rfl
            refine pure_ (i := 13) (N := some 50) (v := ?_) (a' := ?_) #[true, true, true, true, true, true, true, true, true, true, true, true, true, true, false] rfl rfl (by kernel_rfl) (fun _ _ _ h => h) (Or.inl ⟨by rfl, ?_⟩) ?_ ?_
            rotate_left
            · intro w'
              go_simp
              with_reducible rfl
            rotate_left
            · simp only [Act.put, List.setIfInBounds_toArray, List.set_cons_zero, List.set_cons_succ, i64_w, i32_w]
              rfl
            refine pure_ (i := 14) (N := some 13) (v := ?_) (a' := ?_) #[true, true, true, true, true, true, true, true, true, true, true, true, true, true, true] rfl rfl (by kernel_rfl) (fun _ _ _ h => h) (Or.inl ⟨by rfl, ?_⟩) ?_ ?_
            rotate_left
            · intro w'
              go_simp
              with_reducible rfl
            rotate_left
            · simp only [Act.put, List.setIfInBounds_toArray, List.set_cons_zero, List.set_cons_succ, i64_w, i32_w]
              rfl
            refine done_ (by kernel_rfl) ?_
            go_wp2
            go_roundg (k - (q + 1))
            case measure => omega
            case rel => exact ⟨q + 1, by omega, by go_num, by rw [HANY.out]; first | rfl | (rw [← hne]; simp; done) | (rw [← hne]; simp [bne]; done), HOd, HBd, K0d⟩
          · go_wp2_with fail
            refine start_ (n := 15) (S := fun w' => w'.cell? ⟨b, f + k * 3, none⟩ = some (.string a.key)) (ds := []) #[false, false, false, false, false, false, false, false, false, false, false, false, false, false, false] (by kernel_rfl) rfl rfl (K0d.out) (fun hHeld => ?_)
            refine pure_ (i := 0) (N := some 37) (v := ?_) (a' := ?_) #[true, false, false, false, false, false, false, false, false, false, false, false, false, false, false] rfl rfl (by kernel_rfl) (fun _ _ _ h => h) (Or.inl ⟨by rfl, ?_⟩) ?_ ?_
            rotate_left
            · intro w'
              go_simp
              with_reducible rfl
            rotate_left
            · simp only [Act.put, List.setIfInBounds_toArray, List.set_cons_zero, List.set_cons_succ, i64_w, i32_w]
              rfl
            refine pure_ (i := 1) (N := some 38) (v := ?_) (a' := ?_) #[true, true, false, false, false, false, false, false, false, false, false, false, false, false, false] rfl rfl (by kernel_rfl) (fun _ _ _ h => h) (Or.inl ⟨by rfl, ?_⟩) ?_ ?_
            rotate_left
            · intro w'
              go_simp
              with_reducible rfl
            rotate_left
            · simp only [Act.put, List.setIfInBounds_toArray, List.set_cons_zero, List.set_cons_succ, i64_w, i32_w]
              rfl
            refine pure_ (i := 2) (N := some 39) (v := undef) (a' := ?_) #[true, true, true, false, false, false, false, false, false, false, false, false, false, false, false] rfl rfl (by kernel_rfl) (fun _ _ _ h => h) (Or.inr ⟨by rfl, rfl⟩) ?_ ?_
            rotate_left
            · simp only [Act.put, List.setIfInBounds_toArray, List.set_cons_zero, List.set_cons_succ, i64_w, i32_w]
              rfl
            refine pure_ (i := 3) (N := some 40) (v := undef) (a' := ?_) #[true, true, true, true, false, false, false, false, false, false, false, false, false, false, false] rfl rfl (by kernel_rfl) (fun _ _ _ h => h) (Or.inr ⟨by rfl, rfl⟩) ?_ ?_
            rotate_left
            · simp only [Act.put, List.setIfInBounds_toArray, List.set_cons_zero, List.set_cons_succ, i64_w, i32_w]
              rfl
            refine pure_ (i := 4) (N := some 41) (v := undef) (a' := ?_) #[true, true, true, true, true, false, false, false, false, false, false, false, false, false, false] rfl rfl (by kernel_rfl) (fun _ _ _ h => h) (Or.inr ⟨by rfl, rfl⟩) ?_ ?_
            rotate_left
            · simp only [Act.put, List.setIfInBounds_toArray, List.set_cons_zero, List.set_cons_succ, i64_w, i32_w]
              rfl
            refine pure_ (i := 5) (N := some 42) (v := undef) (a' := ?_) #[true, true, true, true, true, true, false, false, false, false, false, false, false, false, false] rfl rfl (by kernel_rfl) (fun _ _ _ h => h) (Or.inr ⟨by rfl, rfl⟩) ?_ ?_
            rotate_left
            · simp only [Act.put, List.setIfInBounds_toArray, List.set_cons_zero, List.set_cons_succ, i64_w, i32_w]
              rfl
            refine pure_ (i := 6) (N := some 43) (v := undef) (a' := ?_) #[true, true, true, true, true, true, true, false, false, false, false, false, false, false, false] rfl rfl (by kernel_rfl) (fun _ _ _ h => h) (Or.inr ⟨by rfl, rfl⟩) ?_ ?_
            rotate_left
            · simp only [Act.put, List.setIfInBounds_toArray, List.set_cons_zero, List.set_cons_succ, i64_w, i32_w]
              rfl
            refine pure_ (i := 7) (N := some 44) (v := undef) (a' := ?_) #[true, true, true, true, true, true, true, true, false, false, false, false, false, false, false] rfl rfl (by kernel_rfl) (fun _ _ _ h => h) (Or.inr ⟨by rfl, rfl⟩) ?_ ?_
            rotate_left
            · simp only [Act.put, List.setIfInBounds_toArray, List.set_cons_zero, List.set_cons_succ, i64_w, i32_w]
              rfl
            refine pure_ (i := 8) (N := some 45) (v := undef) (a' := ?_) #[true, true, true, true, true, true, true, true, true, false, false, false, false, false, false] rfl rfl (by kernel_rfl) (fun _ _ _ h => h) (Or.inr ⟨by rfl, rfl⟩) ?_ ?_
            rotate_left
            · simp only [Act.put, List.setIfInBounds_toArray, List.set_cons_zero, List.set_cons_succ, i64_w, i32_w]
              rfl
            refine pure_ (i := 9) (N := some 46) (v := undef) (a' := ?_) #[true, true, true, true, true, true, true, true, true, true, false, false, false, false, false] rfl rfl (by kernel_rfl) (fun _ _ _ h => h) (Or.inr ⟨by rfl, rfl⟩) ?_ ?_
            rotate_left
            · simp only [Act.put, List.setIfInBounds_toArray, List.set_cons_zero, List.set_cons_succ, i64_w, i32_w]
              rfl
            refine pure_ (i := 10) (N := some 47) (v := undef) (a' := ?_) #[true, true, true, true, true, true, true, true, true, true, true, false, false, false, false] rfl rfl (by kernel_rfl) (fun _ _ _ h => h) (Or.inr ⟨by rfl, rfl⟩) ?_ ?_
            rotate_left
            · simp only [Act.put, List.setIfInBounds_toArray, List.set_cons_zero, List.set_cons_succ, i64_w, i32_w]
              rfl
            refine pure_ (i := 11) (N := some 48) (v := undef) (a' := ?_) #[true, true, true, true, true, true, true, true, true, true, true, true, false, false, false] rfl rfl (by kernel_rfl) (fun _ _ _ h => h) (Or.inr ⟨by rfl, rfl⟩) ?_ ?_
            rotate_left
            · simp only [Act.put, List.setIfInBounds_toArray, List.set_cons_zero, List.set_cons_succ, i64_w, i32_w]
              rfl
            refine pure_ (i := 12) (N := some 49) (v := undef) (a' := ?_) #[true, true, true, true, true, true, true, true, true, true, true, true, true, false, false] rfl rfl (by kernel_rfl) (fun _ _ _ h => h) (Or.inr ⟨by rfl, rfl⟩) ?_ ?_
            rotate_left
            · simp only [Act.put, List.setIfInBounds_toArray, List.set_cons_zero, List.set_cons_succ, i64_w, i32_w]
              rfl
            refine pure_ (i := 13) (N := some 50) (v := ?_) (a' := ?_) #[true, true, true, true, true, true, true, true, true, true, true, true, true, true, false] rfl rfl (by kernel_rfl) (fun _ _ _ h => h) (Or.inl ⟨by rfl, ?_⟩) ?_ ?_
            rotate_left
            · intro w'
              go_simp
              with_reducible rfl
            rotate_left
            · simp only [Act.put, List.setIfInBounds_toArray, List.set_cons_zero, List.set_cons_succ, i64_w, i32_w]
              rfl
            refine pure_ (i := 14) (N := some 13) (v := ?_) (a' := ?_) #[true, true, true, true, true, true, true, true, true, true, true, true, true, true, true] rfl rfl (by kernel_rfl) (fun _ _ _ h => h) (Or.inl ⟨by rfl, ?_⟩) ?_ ?_
            rotate_left
            · intro w'
              go_simp
              with_reducible rfl
            rotate_left
            · simp only [Act.put, List.setIfInBounds_toArray, List.set_cons_zero, List.set_cons_succ, i64_w, i32_w]
              rfl
            refine done_ (by kernel_rfl) ?_
            go_wp2
            go_roundg (k - (q + 1))
            case measure => omega
            case rel => exact ⟨q + 1, by omega, by go_num, by rw [HANY.out]; first | rfl | (rw [← hne]; simp; done) | (rw [← hne]; simp [bne]; done), HOd, HBd, K0d⟩
        · obtain rfl : q = k := by omega
          have HLr := Lib.hid (HL.out.below HB.out)
          have k0 := K0.out
          obtain ⟨N, hN⟩ : ∃ N, (G a.key).nw = N := ⟨_, rfl⟩
          obtain ⟨Dd, hDd⟩ : ∃ D, (G a.key).od = D := ⟨_, rfl⟩
          have hGo := HOK.out a.key
          have HGE : Hid (G a.key = ⟨a.key, N, Dd⟩) := by
            show _ = _
            rw [← hN, ← hDd]
            have := hGo.2
            cases hg : G a.key; rw [hg] at this; simp at this; rw [this]
          have HN := Lib.hid hN
          have HDd := Lib.hid hDd
          clear hN hDd hGo
          go_wp2_with fail
          refine (HGC.out _ _ a.key HLr.out).mono ?_
          rintro e w2 ⟨rfl, hb⟩
          rw [HN.out, HDd.out]
          replace HO := Lib.hid (HO.out.below hb)
          replace HB := Lib.hid (HB.out.trans ((show Below _ _ _ from hb).mono HB.out.size))
          have HSN := Lib.hid (refR_snoc G fl (l.take q) a [] [])
          clear hb k0 K0 HLr
          have skip : (!((l.take q).any fun x => decide (x.key = a.key)) && decide (1 ≤ N) && decide (fl ≤ N)) = false → refR G fl [] (l.take (q + 1)) [] = refR G fl [] (l.take q) [] := fun hc => by
            rw [HTK.out, HSN.out, List.nil_append, HN.out, hc, if_neg (by simp)]
          have take : (!((l.take q).any fun x => decide (x.key = a.key)) && decide (1 ≤ N) && decide (fl ≤ N)) = true → refR G fl [] (l.take (q + 1)) [] = putBy cfZ ⟨a.key, N, Dd⟩ (refR G fl [] (l.take q) []) := fun hc => by
            rw [HTK.out, HSN.out, List.nil_append, HN.out, hc, if_pos rfl, HGE.out]
          replace skip := Lib.hid skip
          replace take := Lib.hid take
          clear HSN
          have HBz : Hid (Below w.heap.size w (w2.alloc (.cells #[.string a.key, .int .i64 N, .int .i64 Dd] 35))) := HB.out.alloc HB.out.size _
          have HOz : Hid (CK.RowK encZ 3 (w2.alloc (.cells #[.string a.key, .int .i64 N, .int .i64 Dd] 35)) (refR G fl [] (l.take q) []) u11) := HO.out.below ((Below.refl _ _).alloc (Nat.le_refl _) _)
          cases D
          · by_cases h1 : 1 ≤ N
            · by_cases h2 : fl ≤ N
              · have hc : (!((l.take q).any fun x => decide (x.key = a.key)) && decide (1 ≤ N) && decide (fl ≤ N)) = true := by rw [← HD.out]; simp [h1, h2]
                have HTE := Lib.hid (take.out hc)
                clear hc skip take
                have d1 : decide (N < 1) = false := by rw [decide_eq_false_iff_not]; omega
                have d2 : decide (N < fl) = false := by rw [decide_eq_false_iff_not]; omega
                have RO : Hid ((⟨a.key, N, Dd⟩ : Rz).ok) := by rw [← HGE.out]; exact (HOK.out a.key).1
                obtain ⟨L, hL⟩ : ∃ L, L = refR G fl [] (l.take q) [] := ⟨_, rfl⟩
                have hLl : L.length ≤ 60 := by
                  have h1 := refR_len G fl (l.take q) [] []
                  have h2 := List.length_take_le q l
                  rw [hL]; simp only [List.length_nil] at h1; omega
                have LOK : Hid (∀ x ∈ L, x.ok) := fun x hx => by
                  rw [hL] at hx
                  rcases refR_mem hx with h | ⟨k, rfl⟩
                  · simp at h
                  · exact (HOK.out k).1
                rw [← hL] at HTE HOz
                clear HO hL
                obtain ⟨uo, uc, rfl, _⟩ := SliceR.shape HOz.out
                obtain ⟨B, hB⟩ : ∃ B, B = w2.heap.size + 1 := ⟨_, rfl⟩
                have HBe := Lib.hid hB
                have HBZ : Hid (B ≤ (w2.alloc (.cells #[.string a.key, .int .i64 N, .int .i64 Dd] 35)).heap.size) := by show B ≤ _; simp; omega
                have BKB : Hid (w2.heap.size < B) := by show _ < _; omega
                clear hB
                go_wp2
                go_loopg [16, 17, 18] L.length (fun m out d i wr => ∃ (j n : Nat) (o : Option Addr) (cp : Nat), j + m = L.length ∧ i = .int .i64 j ∧ d = .bool ((L.take j).any (fun x => decide (cfZ ⟨a.key, N, Dd⟩ x < 0))) ∧ out = .slice o n cp ∧
                  Hid (wr.ownsRow B 35 3 (.slice o n cp) n ((if (L.take j).any (fun x => decide (cfZ ⟨a.key, N, Dd⟩ x < 0)) then putBy cfZ ⟨a.key, N, Dd⟩ (L.take j) else L.take j).flatMap encZ)) ∧ Hid (Below B (w2.alloc (.cells #[.string a.key, .int .i64 N, .int .i64 Dd] 35)) wr))
                case atStart =>
                  refine ⟨0, 0, _, _, by omega, rfl, by simp, rfl, ?_, ?_⟩
                  · show World.ownsRow _ _ _ _ _ _ _
                    simp only [List.take_zero, List.any_nil, Bool.false_eq_true, if_false, List.flatMap_nil]
                    exact ownsRow_empty (by have := blk_new2 w2 (.cells #[.string a.key, .int .i64 N, .int .i64 Dd] 35) (.cells #[] 35 (0, 0)); simpa using this) (by have := HBe.out; omega)
                  · exact (Below.refl B _).alloc HBZ.out _
                case round =>
                  obtain ⟨j, n, so', sc', hjm, rfl, rfl, rfl, HW, HBB⟩ := hrel
                  have BK : Hid (wr.heap[w2.heap.size]? = some (.cells #[.string a.key, .int .i64 N, .int .i64 Dd] 35 (0, 0))) := blk_below (blk_new w2 _) HBB.out BKB.out
                  obtain ⟨E, hE⟩ : ∃ E, E = (L.take j).any (fun x => decide (cfZ ⟨a.key, N, Dd⟩ x < 0)) := ⟨_, rfl⟩
                  rw [← hE] at HW
                  rw [← hE]
                  have HE := Lib.hid hE
                  clear hE
                  by_cases hjn : j < L.length
                  · obtain ⟨bb, ff, dd, q1, hb2, e1⟩ := CK.RowK.cell HOz.out hjn
                    cases q1
                    have XO := Lib.hid (LOK.out L[j] (List.getElem_mem _))
                    obtain ⟨⟨xk, xn, xo⟩, hx⟩ : ∃ c : Rz, c = L[j] := ⟨_, rfl⟩
                    rw [← hx] at e1 XO
                    have A0 : Hid ((w2.alloc (.cells #[.string a.key, .int .i64 N, .int .i64 Dd] 35)).cell? ⟨bb, ff + j * 3, none⟩ = some (.string xk)) := (e1 0 (by omega)).trans rfl
                    have A1 : Hid ((w2.alloc (.cells #[.string a.key, .int .i64 N, .int .i64 Dd] 35)).cell? ⟨bb, ff + j * 3 + 1, none⟩ = some (.int .i64 xn)) := (e1 1 (by omega)).trans rfl
                    have A2 : Hid ((w2.alloc (.cells #[.string a.key, .int .i64 N, .int .i64 Dd] 35)).cell? ⟨bb, ff + j * 3 + 2, none⟩ = some (.int .i64 xo)) := (e1 2 (by omega)).trans rfl
                    have HTJ : Hid (L.take (j + 1) = L.take j ++ [⟨xk, xn, xo⟩]) := by rw [hx]; exact List.take_succ_eq_append_getElem hjn
                    have BKd : Hid (wr.drew.heap[w2.heap.size]? = some (.cells #[.string a.key, .int .i64 N, .int .i64 Dd] 35 (0, 0))) := BK.out
                    have HBBd : Hid (Below B (w2.alloc (.cells #[.string a.key, .int .i64 N, .int .i64 Dd] 35)) wr.drew) := HBB.out.drew
                    have HBL : Hid (bb < B) := by show bb < B; have := HBe.out; simp at hb2; omega
                    clear e1 hx hb2
                    cases E
                    · simp only [Bool.false_eq_true, if_false] at HW
                      have hnk : n ≤ j + 1 := by have := HW.out.1; rw [CK.flat_len encZ_len, List.length_take] at this; omega
                      have HWd : Hid (wr.drew.ownsRow B 35 3 (.slice so' n sc') n ((L.take j).flatMap encZ)) := HW.out
                      cases hlt : decide (cfZ ⟨a.key, N, Dd⟩ ⟨xk, xn, xo⟩ < 0)
                      · have HLT := Lib.hid hlt
                        clear hlt
                        go_wp2_with fail
                        clear HW HBB BK
                        have HW := HWd
                        have HBB := HBBd
                        have BK := BKd
                        refine start_ (n := 10) (S := fun w' => w'.cell? ⟨w2.heap.size, 0, none⟩ = some (.string a.key) ∧ w'.cell? ⟨w2.heap.size, 1, none⟩ = some (.int .i64 N) ∧ w'.cell? ⟨w2.heap.size, 2, none⟩ = some (.int .i64 Dd) ∧ w'.cell? ⟨bb, ff + j * 3, none⟩ = some (.string xk) ∧ w'.cell? ⟨bb, ff + j * 3 + 1, none⟩ = some (.int .i64 xn) ∧ w'.cell? ⟨bb, ff + j * 3 + 2, none⟩ = some (.int .i64 xo)) (ds := []) #[false, false, false, false, false, false, false, false, false, false] (by kernel_rfl) rfl rfl ⟨(blk_cell BK.out 0), (blk_cell BK.out 1), (blk_cell BK.out 2), ((HBB.out.cell (p := ⟨bb, ff + j * 3, none⟩) HBL.out).trans A0.out), ((HBB.out.cell (p := ⟨bb, ff + j * 3 + 1, none⟩) HBL.out).trans A1.out), ((HBB.out.cell (p := ⟨bb, ff + j * 3 + 2, none⟩) HBL.out).trans A2.out)⟩ (fun hHeld => ?_)
                        refine pure_ (i := 0) (N := some 81) (v := ?_) (a' := ?_) #[true, false, false, false, false, false, false, false, false, false] rfl rfl (by kernel_rfl) (fun _ _ _ h => h) (Or.inl ⟨by rfl, ?_⟩) ?_ ?_
                        rotate_left
                        · intro w'
                          go_simp
                          with_reducible rfl
                        rotate_left
                        · simp only [Act.put, List.setIfInBounds_toArray, List.set_cons_zero, List.set_cons_succ, i64_w, i32_w]
                          rfl
                        refine pure_ (i := 1) (N := some 82) (v := ?_) (a' := ?_) #[true, true, false, false, false, false, false, false, false, false] rfl rfl (by kernel_rfl) (fun _ _ _ h => h) (Or.inl ⟨by rfl, ?_⟩) ?_ ?_
                        rotate_left
                        · intro w'
                          go_simp
                          with_reducible rfl
                        rotate_left
                        · simp only [Act.put, List.setIfInBounds_toArray, List.set_cons_zero, List.set_cons_succ, i64_w, i32_w]
                          rfl
                        refine pure_ (i := 2) (N := some 83) (v := ?_) (a' := ?_) #[true, true, true, false, false, false, false, false, false, false] rfl rfl (by kernel_rfl) (fun _ _ _ h => h) (Or.inl ⟨by rfl, ?_⟩) ?_ ?_
                        rotate_left
                        · intro w'
                          go_simp
                          with_reducible rfl
                        rotate_left
                        · simp only [Act.put, List.setIfInBounds_toArray, List.set_cons_zero, List.set_cons_succ, i64_w, i32_w]
                          rfl
                        refine pure_ (i := 4) (N := some 85) (v := ?_) (a' := ?_) #[true, true, true, false, true, false, false, false, false, false] rfl rfl (by kernel_rfl) (fun _ _ _ h => h) (Or.inl ⟨by rfl, ?_⟩) ?_ ?_
                        rotate_left
                        · intro w'
                          go_simp
                          with_reducible rfl
                        rotate_left
                        · simp only [Act.put, List.setIfInBounds_toArray, List.set_cons_zero, List.set_cons_succ, i64_w, i32_w]
                          rfl
                        refine pure_ (i := 5) (N := some 86) (v := ?_) (a' := ?_) #[true, true, true, false, true, true, false, false, false, false] rfl rfl (by kernel_rfl) (fun _ _ _ h => h) (Or.inl ⟨by rfl, ?_⟩) ?_ ?_
                        rotate_left
                        · intro w'
                          go_simp
                          with_reducible rfl
                        rotate_left
                        · simp only [Act.put, List.setIfInBounds_toArray, List.set_cons_zero, List.set_cons_succ, i64_w, i32_w]
                          rfl
                        refine pure_ (i := 6) (N := some 87) (v := ?_) (a' := ?_) #[true, true, true, false, true, true, true, false, false, false] rfl rfl (by kernel_rfl) (fun _ _ _ h => h) (Or.inl ⟨by rfl, ?_⟩) ?_ ?_
                        rotate_left
                        · intro w'
                          go_simp
                          with_reducible rfl
                        rotate_left
                        · simp only [Act.put, List.setIfInBounds_toArray, List.set_cons_zero, List.set_cons_succ, i64_w, i32_w]
                          rfl
                        refine take_ (i := 3) (N := some 84) (v := ?_) (a' := ?_) #[true, true, true, true, true, true, true, false, false, false] rfl rfl (by kernel_rfl) (fun _ _ _ h => h) (Or.inl ⟨by rfl, ?_⟩) hHeld ?_ ?_
                        rotate_left
                        · rintro w' ⟨s0, s1, s2, s3, s4, s5⟩
                          go_simp
                          with_reducible rfl
                        rotate_left
                        · simp only [Act.put, List.setIfInBounds_toArray, List.set_cons_zero, List.set_cons_succ, i64_w, i32_w]
                          rfl
                        refine take_ (i := 7) (N := some 88) (v := ?_) (a' := ?_) #[true, true, true, true, true, true, true, true, false, false] rfl rfl (by kernel_rfl) (fun _ _ _ h => h) (Or.inl ⟨by rfl, ?_⟩) hHeld ?_ ?_
                        rotate_left
                        · rintro w' ⟨s0, s1, s2, s3, s4, s5⟩
                          go_simp
                          with_reducible rfl
                        rotate_left
                        · simp only [Act.put, List.setIfInBounds_toArray, List.set_cons_zero, List.set_cons_succ, i64_w, i32_w]
                          rfl
                        refine one_ (i := 8) (N := some 89) #[true, true, true, true, true, true, true, true, true, false] rfl rfl (by kernel_rfl) (by decide) (fun K hK => ?_)
                        refine goes_ Try.func62 (by kernel_rfl) rfl #[.agg #[.string a.key, .int .i64 N, .int .i64 Dd], .agg #[.string xk, .int .i64 xn, .int .i64 xo]] (by rfl) rfl rfl (by (try simp only [List.map_toArray, List.map_cons, List.map_nil]); first | done | rfl) ?_
                        with_reducible refine (rless19_calls ⟨a.key, N, Dd⟩ ⟨xk, xn, xo⟩ RO.out XO.out _).mono ?_
                        rintro e w3 ⟨rfl, hb⟩
                        refine ⟨_, rfl, ?_⟩
                        rw [HLT.out]
                        replace HW := Lib.hid (ownsRow_same HW.out fun j _ hj => hb.block j hj)
                        replace HBB := Lib.hid (HBB.out.trans ((show Below _ _ _ from hb).mono (Nat.le_trans HBZ.out HBB.out.size)))
                        replace BK := Lib.hid (blk_below BK.out hb (blk_lt BK.out))
                        clear hb
                        refine hK.out _ _ ⟨(blk_cell BK.out 0), (blk_cell BK.out 1), (blk_cell BK.out 2), ((HBB.out.cell (p := ⟨bb, ff + j * 3, none⟩) HBL.out).trans A0.out), ((HBB.out.cell (p := ⟨bb, ff + j * 3 + 1, none⟩) HBL.out).trans A1.out), ((HBB.out.cell (p := ⟨bb, ff + j * 3 + 2, none⟩) HBL.out).trans A2.out)⟩ (fun hHeld => ?_)
                        clear hK K
                        refine norm_ (a' := ?_) ?_ ?_
                        rotate_left
                        · show Act.put _ (some 89) _ = _
                          simp only [Act.put, List.setIfInBounds_toArray, List.set_cons_zero, List.set_cons_succ, i64_w, i32_w]
                          rfl
                        refine pure_ (i := 9) (N := some 90) (v := ?_) (a' := ?_) #[true, true, true, true, true, true, true, true, true, true] rfl rfl (by kernel_rfl) (fun _ _ _ h => h) (Or.inl ⟨by rfl, ?_⟩) ?_ ?_
                        rotate_left
                        · intro w'
                          go_simp
                          with_reducible rfl
                        rotate_left
                        · simp only [Act.put, List.setIfInBounds_toArray, List.set_cons_zero, List.set_cons_succ, i64_w, i32_w]
                          rfl
                        refine done_ (by kernel_rfl) ?_
                        clear hHeld
                        have a0 := (HBB.out.cell (p := ⟨bb, ff + j * 3, none⟩) HBL.out).trans A0.out
                        have a1 := (HBB.out.cell (p := ⟨bb, ff + j * 3 + 1, none⟩) HBL.out).trans A1.out
                        have a2 := (HBB.out.cell (p := ⟨bb, ff + j * 3 + 2, none⟩) HBL.out).trans A2.out
                        have b0 := (blk_cell BK.out 0).trans rfl
                        have b1 := (blk_cell BK.out 1).trans rfl
                        have b2 := (blk_cell BK.out 2).trans rfl
                        go_wp2_with (at_builtin; refine wpList_append_own _ rfl _ _ 32 rfl B 35 i0 (.agg #[.string ⟨#[]⟩, .int .i64 0, .int .i64 0]) 3 32 Try.underlying32 hi hz0 hz1 hz2 rfl (by decide) _ _ _ rfl (HW.out.alloc _) ⟨w3.heap.size, 0, none⟩ 1 1 [.string xk, .int .i64 xn, .int .i64 xo] rfl rfl ?c1 ?c2 ?c3 ?c4 ?c5 ?_)
                        case c1 => exact cell_newZ _ _ _ _
                        case c2 => exact fun x hx => by simp at hx; rcases hx with rfl | rfl | rfl <;> rfl
                        case c3 => unfold maxLen; omega
                        case c4 => omega
                        case c5 => have := Nat.le_trans HBZ.out HBB.out.size; (try simp at this); simp; omega
                        intro v' w4 hown' hgrow _
                        have hb4 : Below B w3 w4 := below_append HW.out (Nat.le_trans HBZ.out HBB.out.size) hgrow
                        have BKn := Lib.hid (blk_below BK.out hb4 BKB.out)
                        replace HW := Lib.hid hown'
                        replace HBB := Lib.hid (HBB.out.trans hb4)
                        replace BK := BKn
                        clear hown' hgrow hb4 BKn
                        obtain ⟨so', sc', rfl⟩ := ownsRow_shape HW.out
                        go_wp2
                        go_roundg (L.length - (j + 1))
                        case measure => omega
                        case rel =>
                          have hany : (L.take (j + 1)).any (fun x => decide (cfZ ⟨a.key, N, Dd⟩ x < 0)) = false := by rw [HTJ.out, List.any_append, ← HE.out]; simp only [List.any_cons, HLT.out]; rfl
                          refine ⟨j + 1, n + 1, _, _, by omega, by go_num, by rw [hany], rfl, ?_, HBB⟩
                          show World.ownsRow _ _ _ _ _ _ _
                          rw [hany, if_neg (by simp), HTJ.out, List.flatMap_append]
                          exact HW.out
                      · have HLT := Lib.hid hlt
                        clear hlt
                        go_wp2_with fail
                        clear HW HBB BK
                        have HW := HWd
                        have HBB := HBBd
                        have BK := BKd
                        refine start_ (n := 10) (S := fun w' => w'.cell? ⟨w2.heap.size, 0, none⟩ = some (.string a.key) ∧ w'.cell? ⟨w2.heap.size, 1, none⟩ = some (.int .i64 N) ∧ w'.cell? ⟨w2.heap.size, 2, none⟩ = some (.int .i64 Dd) ∧ w'.cell? ⟨bb, ff + j * 3, none⟩ = some (.string xk) ∧ w'.cell? ⟨bb, ff + j * 3 + 1, none⟩ = some (.int .i64 xn) ∧ w'.cell? ⟨bb, ff + j * 3 + 2, none⟩ = some (.int .i64 xo)) (ds := []) #[false, false, false, false, false, false, false, false, false, false] (by kernel_rfl) rfl rfl ⟨(blk_cell BK.out 0), (blk_cell BK.out 1), (blk_cell BK.out 2), ((HBB.out.cell (p := ⟨bb, ff + j * 3, none⟩) HBL.out).trans A0.out), ((HBB.out.cell (p := ⟨bb, ff + j * 3 + 1, none⟩) HBL.out).trans A1.out), ((HBB.out.cell (p := ⟨bb, ff + j * 3 + 2, none⟩) HBL.out).trans A2.out)⟩ (fun hHeld => ?_)
                        refine pure_ (i := 0) (N := some 81) (v := ?_) (a' := ?_) #[true, false, false, false, false, false, false, false, false, false] rfl rfl (by kernel_rfl) (fun _ _ _ h => h) (Or.inl ⟨by rfl, ?_⟩) ?_ ?_
                        rotate_left
                        · intro w'
                          go_simp
                          with_reducible rfl
                        rotate_left
                        · simp only [Act.put, List.setIfInBounds_toArray, List.set_cons_zero, List.set_cons_succ, i64_w, i32_w]
                          rfl
                        refine pure_ (i := 1) (N := some 82) (v := ?_) (a' := ?_) #[true, true, false, false, false, false, false, false, false, false] rfl rfl (by kernel_rfl) (fun _ _ _ h => h) (Or.inl ⟨by rfl, ?_⟩) ?_ ?_
                        rotate_left
                        · intro w'
                          go_simp
                          with_reducible rfl
                        rotate_left
                        · simp only [Act.put, List.setIfInBounds_toArray, List.set_cons_zero, List.set_cons_succ, i64_w, i32_w]
                          rfl
                        refine pure_ (i := 2) (N := some 83) (v := ?_) (a' := ?_) #[true, true, true, false, false, false, false, false, false, false] rfl rfl (by kernel_rfl) (fun _ _ _ h => h) (Or.inl ⟨by rfl, ?_⟩) ?_ ?_
                        rotate_left
                        · intro w'
                          go_simp
                          with_reducible rfl
                        rotate_left
                        · simp only [Act.put, List.setIfInBounds_toArray, List.set_cons_zero, List.set_cons_succ, i64_w, i32_w]
                          rfl
                        refine pure_ (i := 4) (N := some 85) (v := ?_) (a' := ?_) #[true, true, true, false, true, false, false, false, false, false] rfl rfl (by kernel_rfl) (fun _ _ _ h => h) (Or.inl ⟨by rfl, ?_⟩) ?_ ?_
                        rotate_left
                        · intro w'
                          go_simp
                          with_reducible rfl
                        rotate_left
                        · simp only [Act.put, List.setIfInBounds_toArray, List.set_cons_zero, List.set_cons_succ, i64_w, i32_w]
                          rfl
                        refine pure_ (i := 5) (N := some 86) (v := ?_) (a' := ?_) #[true, true, true, false, true, true, false, false, false, false] rfl rfl (by kernel_rfl) (fun _ _ _ h => h) (Or.inl ⟨by rfl, ?_⟩) ?_ ?_
                        rotate_left
                        · intro w'
                          go_simp
                          with_reducible rfl
                        rotate_left
                        · simp only [Act.put, List.setIfInBounds_toArray, List.set_cons_zero, List.set_cons_succ, i64_w, i32_w]
                          rfl
                        refine pure_ (i := 6) (N := some 87) (v := ?_) (a' := ?_) #[true, true, true, false, true, true, true, false, false, false] rfl rfl (by kernel_rfl) (fun _ _ _ h => h) (Or.inl ⟨by rfl, ?_⟩) ?_ ?_
                        rotate_left
                        · intro w'
                          go_simp
                          with_reducible rfl
                        rotate_left
                        · simp only [Act.put, List.setIfInBounds_toArray, List.set_cons_zero, List.set_cons_succ, i64_w, i32_w]
                          rfl
                        refine take_ (i := 3) (N := some 84) (v := ?_) (a' := ?_) #[true, true, true, true, true, true, true, false, false, false] rfl rfl (by kernel_rfl) (fun _ _ _ h => h) (Or.inl ⟨by rfl, ?_⟩) hHeld ?_ ?_
                        rotate_left
                        · rintro w' ⟨s0, s1, s2, s3, s4, s5⟩
                          go_simp
                          with_reducible rfl
                        rotate_left
                        · simp only [Act.put, List.setIfInBounds_toArray, List.set_cons_zero, List.set_cons_succ, i64_w, i32_w]
                          rfl
                        refine take_ (i := 7) (N := some 88) (v := ?_) (a' := ?_) #[true, true, true, true, true, true, true, true, false, false] rfl rfl (by kernel_rfl) (fun _ _ _ h => h) (Or.inl ⟨by rfl, ?_⟩) hHeld ?_ ?_
                        rotate_left
                        · rintro w' ⟨s0, s1, s2, s3, s4, s5⟩
                          go_simp
                          with_reducible rfl
                        rotate_left
                        · simp only [Act.put, List.setIfInBounds_toArray, List.set_cons_zero, List.set_cons_succ, i64_w, i32_w]
                          rfl
                        refine one_ (i := 8) (N := some 89) #[true, true, true, true, true, true, true, true, true, false] rfl rfl (by kernel_rfl) (by decide) (fun K hK => ?_)
                        refine goes_ Try.func62 (by kernel_rfl) rfl #[.agg #[.string a.key, .int .i64 N, .int .i64 Dd], .agg #[.string xk, .int .i64 xn, .int .i64 xo]] (by rfl) rfl rfl (by (try simp only [List.map_toArray, List.map_cons, List.map_nil]); first | done | rfl) ?_
                        with_reducible refine (rless19_calls ⟨a.key, N, Dd⟩ ⟨xk, xn, xo⟩ RO.out XO.out _).mono ?_
                        rintro e w3 ⟨rfl, hb⟩
                        refine ⟨_, rfl, ?_⟩
                        rw [HLT.out]
                        replace HW := Lib.hid (ownsRow_same HW.out fun j _ hj => hb.block j hj)
                        replace HBB := Lib.hid (HBB.out.trans ((show Below _ _ _ from hb).mono (Nat.le_trans HBZ.out HBB.out.size)))
                        replace BK := Lib.hid (blk_below BK.out hb (blk_lt BK.out))
                        clear hb
                        refine hK.out _ _ ⟨(blk_cell BK.out 0), (blk_cell BK.out 1), (blk_cell BK.out 2), ((HBB.out.cell (p := ⟨bb, ff + j * 3, none⟩) HBL.out).trans A0.out), ((HBB.out.cell (p := ⟨bb, ff + j * 3 + 1, none⟩) HBL.out).trans A1.out), ((HBB.out.cell (p := ⟨bb, ff + j * 3 + 2, none⟩) HBL.out).trans A2.out)⟩ (fun hHeld => ?_)
                        clear hK K
                        refine norm_ (a' := ?_) ?_ ?_
                        rotate_left
                        · show Act.put _ (some 89) _ = _
                          simp only [Act.put, List.setIfInBounds_toArray, List.set_cons_zero, List.set_cons_succ, i64_w, i32_w]
                          rfl
                        refine pure_ (i := 9) (N := some 90) (v := ?_) (a' := ?_) #[true, true, true, true, true, true, true, true, true, true] rfl rfl (by kernel_rfl) (fun _ _ _ h => h) (Or.inl ⟨by rfl, ?_⟩) ?_ ?_
                        rotate_left
                        · intro w'
                          go_simp
                          with_reducible rfl
                        rotate_left
                        · simp only [Act.put, List.setIfInBounds_toArray, List.set_cons_zero, List.set_cons_succ, i64_w, i32_w]
                          rfl
                        refine done_ (by kernel_rfl) ?_
                        clear hHeld
                        have a0 := (HBB.out.cell (p := ⟨bb, ff + j * 3, none⟩) HBL.out).trans A0.out
                        have a1 := (HBB.out.cell (p := ⟨bb, ff + j * 3 + 1, none⟩) HBL.out).trans A1.out
                        have a2 := (HBB.out.cell (p := ⟨bb, ff + j * 3 + 2, none⟩) HBL.out).trans A2.out
                        have b0 := (blk_cell BK.out 0).trans rfl
                        have b1 := (blk_cell BK.out 1).trans rfl
                        have b2 := (blk_cell BK.out 2).trans rfl
                        go_wp2_with (at_builtin; refine wpList_append_own _ rfl _ _ 32 rfl B 35 i0 (.agg #[.string ⟨#[]⟩, .int .i64 0, .int .i64 0]) 3 32 Try.underlying32 hi hz0 hz1 hz2 rfl (by decide) _ _ _ rfl (HW.out.alloc _) ⟨w3.heap.size, 0, none⟩ 1 1 [.string a.key, .int .i64 N, .int .i64 Dd] rfl rfl ?c1 ?c2 ?c3 ?c4 ?c5 ?_)
                        case c1 => exact cell_newZ _ _ _ _
                        case c2 => exact fun x hx => by simp at hx; rcases hx with rfl | rfl | rfl <;> rfl
                        case c3 => unfold maxLen; omega
                        case c4 => omega
                        case c5 => have := Nat.le_trans HBZ.out HBB.out.size; (try simp at this); simp; omega
                        intro v' w4 hown' hgrow _
                        have hb4 : Below B w3 w4 := below_append HW.out (Nat.le_trans HBZ.out HBB.out.size) hgrow
                        have BKn := Lib.hid (blk_below BK.out hb4 BKB.out)
                        replace HW := Lib.hid hown'
                        replace HBB := Lib.hid (HBB.out.trans hb4)
                        replace BK := BKn
                        clear hown' hgrow hb4 BKn
                        obtain ⟨so', sc', rfl⟩ := ownsRow_shape HW.out
                        clear a0 a1 a2 b0 b1 b2
                        have a0 := (HBB.out.cell (p := ⟨bb, ff + j * 3, none⟩) HBL.out).trans A0.out
                        have a1 := (HBB.out.cell (p := ⟨bb, ff + j * 3 + 1, none⟩) HBL.out).trans A1.out
                        have a2 := (HBB.out.cell (p := ⟨bb, ff + j * 3 + 2, none⟩) HBL.out).trans A2.out
                        have b0 := (blk_cell BK.out 0).trans rfl
                        have b1 := (blk_cell BK.out 1).trans rfl
                        have b2 := (blk_cell BK.out 2).trans rfl
                        go_wp2_with (at_builtin; refine wpList_append_own _ rfl _ _ 32 rfl B 35 i0 (.agg #[.string ⟨#[]⟩, .int .i64 0, .int .i64 0]) 3 32 Try.underlying32 hi hz0 hz1 hz2 rfl (by decide) _ _ _ rfl (HW.out.alloc _) ⟨w4.heap.size, 0, none⟩ 1 1 [.string xk, .int .i64 xn, .int .i64 xo] rfl rfl ?c1 ?c2 ?c3 ?c4 ?c5 ?_)
                        case c1 => exact cell_newZ _ _ _ _
                        case c2 => exact fun x hx => by simp at hx; rcases hx with rfl | rfl | rfl <;> rfl
                        case c3 => unfold maxLen; omega
                        case c4 => omega
                        case c5 => have := Nat.le_trans HBZ.out HBB.out.size; (try simp at this); simp; omega
                        intro v' w5 hown' hgrow _
                        have hb4 : Below B w4 w5 := below_append HW.out (Nat.le_trans HBZ.out HBB.out.size) hgrow
                        have BKn := Lib.hid (blk_below BK.out hb4 BKB.out)
                        replace HW := Lib.hid hown'
                        replace HBB := Lib.hid (HBB.out.trans hb4)
                        replace BK := BKn
                        clear hown' hgrow hb4 BKn
                        obtain ⟨so', sc', rfl⟩ := ownsRow_shape HW.out
                        go_wp2
                        go_roundg (L.length - (j + 1))
                        case measure => omega
                        case rel =>
                          have hany : (L.take (j + 1)).any (fun x => decide (cfZ ⟨a.key, N, Dd⟩ x < 0)) = true := by rw [HTJ.out, List.any_append]; simp only [List.any_cons, HLT.out]; simp
                          refine ⟨j + 1, n + 1 + 1, _, _, by omega, by go_num, by rw [hany], rfl, ?_, HBB⟩
                          show World.ownsRow _ _ _ _ _ _ _
                          rw [hany, if_pos rfl, HTJ.out, putBy_at HE.out.symm (of_decide_eq_true HLT.out), List.flatMap_append]
                          exact HW.out
                    · simp only [if_true] at HW
                      have hnk : n ≤ j + 1 := by have := HW.out.1; rw [CK.flat_len encZ_len, (putBy_perm _ _).length_eq, List.length_cons, List.length_take] at this; omega
                      have HWd : Hid (wr.drew.ownsRow B 35 3 (.slice so' n sc') n ((putBy cfZ ⟨a.key, N, Dd⟩ (L.take j)).flatMap encZ)) := HW.out
                      go_wp2_with fail
                      clear HW HBB BK
                      have HW := HWd
                      have HBB := HBBd
                      have BK := BKd
                      refine start_ (n := 10) (S := fun w' => w'.cell? ⟨w2.heap.size, 0, none⟩ = some (.string a.key) ∧ w'.cell? ⟨w2.heap.size, 1, none⟩ = some (.int .i64 N) ∧ w'.cell? ⟨w2.heap.size, 2, none⟩ = some (.int .i64 Dd) ∧ w'.cell? ⟨bb, ff + j * 3, none⟩ = some (.string xk) ∧ w'.cell? ⟨bb, ff + j * 3 + 1, none⟩ = some (.int .i64 xn) ∧ w'.cell? ⟨bb, ff + j * 3 + 2, none⟩ = some (.int .i64 xo)) (ds := []) #[false, false, false, false, false, false, false, false, false, false] (by kernel_rfl) rfl rfl ⟨(blk_cell BK.out 0), (blk_cell BK.out 1), (blk_cell BK.out 2), ((HBB.out.cell (p := ⟨bb, ff + j * 3, none⟩) HBL.out).trans A0.out), ((HBB.out.cell (p := ⟨bb, ff + j * 3 + 1, none⟩) HBL.out).trans A1.out), ((HBB.out.cell (p := ⟨bb, ff + j * 3 + 2, none⟩) HBL.out).trans A2.out)⟩ (fun hHeld => ?_)
                      refine pure_ (i := 0) (N := some 81) (v := ?_) (a' := ?_) #[true, false, false, false, false, false, false, false, false, false] rfl rfl (by kernel_rfl) (fun _ _ _ h => h) (Or.inl ⟨by rfl, ?_⟩) ?_ ?_
                      rotate_left
                      · intro w'
                        go_simp
                        with_reducible rfl
                      rotate_left
                      · simp only [Act.put, List.setIfInBounds_toArray, List.set_cons_zero, List.set_cons_succ, i64_w, i32_w]
                        rfl
                      refine pure_ (i := 1) (N := some 82) (v := ?_) (a' := ?_) #[true, true, false, false, false, false, false, false, false, false] rfl rfl (by kernel_rfl) (fun _ _ _ h => h) (Or.inl ⟨by rfl, ?_⟩) ?_ ?_
                      rotate_left
                      · intro w'
                        go_simp
                        with_reducible rfl
                      rotate_left
                      · simp only [Act.put, List.setIfInBounds_toArray, List.set_cons_zero, List.set_cons_succ, i64_w, i32_w]
                        rfl
                      refine pure_ (i := 2) (N := some 83) (v := ?_) (a' := ?_) #[true, true, true, false, false, false, false, false, false, false] rfl rfl (by kernel_rfl) (fun _ _ _ h => h) (Or.inl ⟨by rfl, ?_⟩) ?_ ?_
                      rotate_left
                      · intro w'
                        go_simp
                        with_reducible rfl
                      rotate_left
                      · simp only [Act.put, List.setIfInBounds_toArray, List.set_cons_zero, List.set_cons_succ, i64_w, i32_w]
                        rfl
                      refine pure_ (i := 3) (N := some 84) (v := undef) (a' := ?_) #[true, true, true, true, false, false, false, false, false, false] rfl rfl (by kernel_rfl) (fun _ _ _ h => h) (Or.inr ⟨by rfl, rfl⟩) ?_ ?_
                      rotate_left
                      · simp only [Act.put, List.setIfInBounds_toArray, List.set_cons_zero, List.set_cons_succ, i64_w, i32_w]
                        rfl
                      refine pure_ (i := 4) (N := some 85) (v := undef) (a' := ?_) #[true, true, true, true, true, false, false, false, false, false] rfl rfl (by kernel_rfl) (fun _ _ _ h => h) (Or.inr ⟨by rfl, rfl⟩) ?_ ?_
                      rotate_left
                      · simp only [Act.put, List.setIfInBounds_toArray, List.set_cons_zero, List.set_cons_succ, i64_w, i32_w]
                        rfl
                      refine pure_ (i := 5) (N := some 86) (v := undef) (a' := ?_) #[true, true, true, true, true, true, false, false, false, false] rfl rfl (by kernel_rfl) (fun _ _ _ h => h) (Or.inr ⟨by rfl, rfl⟩) ?_ ?_
                      rotate_left
                      · simp only [Act.put, List.setIfInBounds_toArray, List.set_cons_zero, List.set_cons_succ, i64_w, i32_w]
                        rfl
                      refine pure_ (i := 6) (N := some 87) (v := undef) (a' := ?_) #[true, true, true, true, true, true, true, false, false, false] rfl rfl (by kernel_rfl) (fun _ _ _ h => h) (Or.inr ⟨by rfl, rfl⟩) ?_ ?_
                      rotate_left
                      · simp only [Act.put, List.setIfInBounds_toArray, List.set_cons_zero, List.set_cons_succ, i64_w, i32_w]
                        rfl
                      refine pure_ (i := 7) (N := some 88) (v := undef) (a' := ?_) #[true, true, true, true, true, true, true, true, false, false] rfl rfl (by kernel_rfl) (fun _ _ _ h => h) (Or.inr ⟨by rfl, rfl⟩) ?_ ?_
                      rotate_left
                      · simp only [Act.put, List.setIfInBounds_toArray, List.set_cons_zero, List.set_cons_succ, i64_w, i32_w]
                        rfl
                      refine pure_ (i := 8) (N := some 89) (v := undef) (a' := ?_) #[true, true, true, true, true, true, true, true, true, false] rfl rfl (by kernel_rfl) (fun _ _ _ h => h) (Or.inr ⟨by rfl, rfl⟩) ?_ ?_
                      rotate_left
                      · simp only [Act.put, List.setIfInBounds_toArray, List.set_cons_zero, List.set_cons_succ, i64_w, i32_w]
                        rfl
                      refine pure_ (i := 9) (N := some 90) (v := ?_) (a' := ?_) #[true, true, true, true, true, true, true, true, true, true] rfl rfl (by kernel_rfl) (fun _ _ _ h => h) (Or.inl ⟨by rfl, ?_⟩) ?_ ?_
                      rotate_left
                      · intro w'
                        go_simp
                        with_reducible rfl
                      rotate_left
                      · simp only [Act.put, List.setIfInBounds_toArray, List.set_cons_zero, List.set_cons_succ, i64_w, i32_w]
                        rfl
                      refine done_ (by kernel_rfl) ?_
                      clear hHeld
                      have a0 := (HBB.out.cell (p := ⟨bb, ff + j * 3, none⟩) HBL.out).trans A0.out
                      have a1 := (HBB.out.cell (p := ⟨bb, ff + j * 3 + 1, none⟩) HBL.out).trans A1.out
                      have a2 := (HBB.out.cell (p := ⟨bb, ff + j * 3 + 2, none⟩) HBL.out).trans A2.out
                      have b0 := (blk_cell BK.out 0).trans rfl
                      have b1 := (blk_cell BK.out 1).trans rfl
                      have b2 := (blk_cell BK.out 2).trans rfl
                      go_wp2_with (at_builtin; refine wpList_append_own _ rfl _ _ 32 rfl B 35 i0 (.agg #[.string ⟨#[]⟩, .int .i64 0, .int .i64 0]) 3 32 Try.underlying32 hi hz0 hz1 hz2 rfl (by decide) _ _ _ rfl (HW.out.alloc _) ⟨wr.drew.heap.size, 0, none⟩ 1 1 [.string xk, .int .i64 xn, .int .i64 xo] rfl rfl ?c1 ?c2 ?c3 ?c4 ?c5 ?_)
                      case c1 => exact cell_newZ _ _ _ _
                      case c2 => exact fun x hx => by simp at hx; rcases hx with rfl | rfl | rfl <;> rfl
                      case c3 => unfold maxLen; omega
                      case c4 => omega
                      case c5 => have := Nat.le_trans HBZ.out HBB.out.size; (try simp at this); simp; omega
                      intro v' w5 hown' hgrow _
                      have hb4 : Below B wr.drew w5 := below_append HW.out (Nat.le_trans HBZ.out HBB.out.size) hgrow
                      have BKn := Lib.hid (blk_below BK.out hb4 BKB.out)
                      replace HW := Lib.hid hown'
                      replace HBB := Lib.hid (HBB.out.trans hb4)
                      replace BK := BKn
                      clear hown' hgrow hb4 BKn
                      obtain ⟨so', sc', rfl⟩ := ownsRow_shape HW.out
                      go_wp2
                      go_roundg (L.length - (j + 1))
                      case measure => omega
                      case rel =>
                        have hany : (L.take (j + 1)).any (fun x => decide (cfZ ⟨a.key, N, Dd⟩ x < 0)) = true := by rw [HTJ.out, List.any_append, ← HE.out]; rfl
                        refine ⟨j + 1, n + 1, _, _, by omega, by go_num, by rw [hany], rfl, ?_, HBB⟩
                        show World.ownsRow _ _ _ _ _ _ _
                        rw [hany, if_pos rfl, HTJ.out, putBy_yes HE.out.symm, List.flatMap_append]
                        exact HW.out
                  · obtain rfl : j = L.length := by omega
                    replace HE : Hid (E = L.any (fun x => decide (cfZ ⟨a.key, N, Dd⟩ x < 0))) := by have := HE.out; rw [List.take_length] at this; exact this
                    rw [List.take_length] at HW
                    have HLw : Hid (w.heap.size ≤ B) := by show w.heap.size ≤ B; have := HBz.out.size; have := HBe.out; have := HB.out.size; omega
                    cases E
                    · simp only [Bool.false_eq_true, if_false] at HW
                      have hnk : n ≤ L.length := by have := HW.out.1; rw [CK.flat_len encZ_len] at this; omega
                      have b0 := (blk_cell BK.out 0).trans rfl
                      have b1 := (blk_cell BK.out 1).trans rfl
                      have b2 := (blk_cell BK.out 2).trans rfl
                      go_wp2_with (at_builtin; refine wpList_append_own _ rfl _ _ 32 rfl B 35 i0 (.agg #[.string ⟨#[]⟩, .int .i64 0, .int .i64 0]) 3 32 Try.underlying32 hi hz0 hz1 hz2 rfl (by decide) _ _ _ rfl (HW.out.alloc _) ⟨wr.heap.size, 0, none⟩ 1 1 [.string a.key, .int .i64 N, .int .i64 Dd] rfl rfl ?c1 ?c2 ?c3 ?c4 ?c5 ?_)
                      case c1 => exact cell_newZ _ _ _ _
                      case c2 => exact fun x hx => by simp at hx; rcases hx with rfl | rfl | rfl <;> rfl
                      case c3 => unfold maxLen; omega
                      case c4 => omega
                      case c5 => have := Nat.le_trans HBZ.out HBB.out.size; (try simp at this); simp; omega
                      intro v' w5 hown' hgrow _
                      have hb4 : Below B wr w5 := below_append HW.out (Nat.le_trans HBZ.out HBB.out.size) hgrow
                      have BKn := Lib.hid (blk_below BK.out hb4 BKB.out)
                      replace HW := Lib.hid hown'
                      replace HBB := Lib.hid (HBB.out.trans hb4)
                      replace BK := BKn
                      clear hown' hgrow hb4 BKn
                      obtain ⟨so', sc', rfl⟩ := ownsRow_shape HW.out
                      go_wp2
                      go_roundg (l.length - (q + 1))
                      case measure => omega
                      case rel =>
                        refine ⟨q + 1, by omega, by go_num, ?_, HBz.out.trans (HBB.out.mono HLw.out)⟩
                        show CK.RowK _ _ _ _ _
                        rw [HTE.out, putBy_no HE.out.symm]
                        have hlen : n + 1 = (L ++ [(⟨a.key, N, Dd⟩ : Rz)]).length := by have := HW.out.1; rw [List.length_append, CK.flat_len encZ_len] at this; simp at this ⊢; omega
                        have h2 := HW.out
                        rw [hlen] at h2 ⊢
                        exact CK.rowK_of_own encZ_len (by rw [List.flatMap_append]; exact h2)
                    · simp only [if_true] at HW
                      go_wp2
                      go_roundg (l.length - (q + 1))
                      case measure => omega
                      case rel =>
                        refine ⟨q + 1, by omega, by go_num, ?_, HBz.out.trans (HBB.out.mono HLw.out)⟩
                        show CK.RowK _ _ _ _ _
                        rw [HTE.out]
                        have h2 := HW.out
                        have hlen : n = (putBy cfZ ⟨a.key, N, Dd⟩ L).length := by have := h2.1; rw [CK.flat_len encZ_len] at this; omega
                        rw [hlen] at h2 ⊢
                        exact CK.rowK_of_own encZ_len h2
              · have d1 : decide (N < 1) = false := by rw [decide_eq_false_iff_not]; omega
                have d2 : decide (N < fl) = true := by rw [decide_eq_true_iff]; omega
                have HTE := Lib.hid (skip.out (by simp [h2]))
                clear skip take
                go_wp2
                go_roundg (l.length - (q + 1))
                case measure => omega
                case rel => exact ⟨q + 1, by omega, by go_num, by rw [HTE.out]; exact HOz, HBz⟩
            · have d1 : decide (N < 1) = true := by rw [decide_eq_true_iff]; omega
              have HTE := Lib.hid (skip.out (by simp [h1]))
              clear skip take
              go_wp2
              go_roundg (l.length - (q + 1))
              case measure => omega
              case rel => exact ⟨q + 1, by omega, by go_num, by rw [HTE.out]; exact HOz, HBz⟩
          · have HTE := Lib.hid (skip.out (by rw [← HD.out]; rfl))
            clear skip take
            go_wp2
            go_roundg (l.length - (q + 1))
            case measure => omega
            case rel => exact ⟨q + 1, by omega, by go_num, by rw [HTE.out]; exact HOz, HBz⟩
    · obtain rfl : k = l.length := by omega
      rw [List.take_length] at HO
      go_wp2
      go_ret
      exact ⟨_, rfl, HO.out, HB.out⟩
end Go.Proofs.Ytmddlbgdmdepdaa
