/- The contracts of rising.Ratio and of the comparison of rises. No condition. -/
import Derived.Test.YtmddlbgdmdepdaaRatA
import Derived.Test.YtmddlbgdmdepdaaCmpA
import Derived.Test.YtmddlbgdmdepdaaKitE
set_option linter.unusedVariables false
set_option linter.unusedSimpArgs false
set_option maxRecDepth 100000
namespace Go.Proofs.Ytmddlbgdmdepdaa
open Go.Maps Go.MapKept Go.RowKit Go.ChangeMaps CK Go.Proofs.YtmddlbgdmdepdaaW.PrintLast

structure Rz where
  key : ByteArray
  nw : Int
  od : Int
  deriving DecidableEq
/-- a rise whose numbers are small -/
def Rz.ok (r : Rz) : Prop := 0 ≤ r.nw ∧ r.nw ≤ 4611686018427387904 ∧ 0 ≤ r.od ∧ r.od ≤ 4611686018427387904
theorem ratio_calls (k : ByteArray) (n o : Int) (w : World) (h0 : 0 ≤ n) (h1 : n ≤ 4611686018427387904) (h2 : 0 ≤ o) (h3 : o ≤ 4611686018427387904) :
    Calls Try.prog 21 #[.agg #[.string k, .int .i64 n, .int .i64 o]] w fun e w' => e = .returned (.agg #[.int .i64 n, .int .i64 (o + 1)]) ∧ Gr w w' := by
  have d1 : decide (n < 0) = false := by simpa using h0
  have d2 : decide (o < 0) = false := by simpa using h2
  have d3 : (o == 9223372036854775807) = false := by rw [beq_eq_false_iff_ne]; omega
  have BK1 : Hid (((w.alloc (.cells #[.string k, .int .i64 n, .int .i64 o] 35)).alloc (.cells #[.int .i64 0, .int .i64 0] 39)).heap[w.heap.size]? = some (.cells #[.string k, .int .i64 n, .int .i64 o] 35 (0, 0))) := blk_old (blk_new w _) _
  have BK2 : Hid (((w.alloc (.cells #[.string k, .int .i64 n, .int .i64 o] 35)).alloc (.cells #[.int .i64 0, .int .i64 0] 39)).heap[w.heap.size + 1]? = some (.cells #[.int .i64 0, .int .i64 0] 39 (0, 0))) := blk_new2 w _ _
  have HG : Hid (Gr w ((w.alloc (.cells #[.string k, .int .i64 n, .int .i64 o] 35)).alloc (.cells #[.int .i64 0, .int .i64 0] 39))) := ((Gr.refl w).alloc _).alloc _
  go_enter Try.func21, Try.ntmps21
  go_wp2
  refine bodyPost_ret (results_cell_row rfl _ _ (w.heap.size + 1) 39 _ (0, 0) _ rfl (blk_new2 w _ _) Try.underlying39 rfl (by kernel_rfl)) rfl ⟨rfl, ((Gr.refl w).alloc _).alloc _⟩
def cfZ (a b : Rz) : Int := if cmpI (b.nw * (a.od + 1)) (a.nw * (b.od + 1)) = 0 then (if cmpI b.nw a.nw = 0 then cmpS a.key b.key else cmpI b.nw a.nw) else cmpI (b.nw * (a.od + 1)) (a.nw * (b.od + 1))
theorem hld_ok {a b : Int} (h0 : 0 ≤ a) (h1 : 1 ≤ b) : hld (a, b) = (a, b) := by simp [hld, ratMay, h0, h1]
theorem strCmp_gr (a b : ByteArray) (w : World) : Calls Try.prog 48 #[.string a, .string b] w fun e w' => e = .returned (.int .i64 (cmpS a b)) ∧ w' = w := strCmp_calls a b w
set_option maxHeartbeats 2000000 in
theorem ofCmp_calls (a b : Rz) (ha : a.ok) (hb : b.ok) (w : World) : Calls Try.prog 45 #[.agg #[.string a.key, .int .i64 a.nw, .int .i64 a.od], .agg #[.string b.key, .int .i64 b.nw, .int .i64 b.od]] w fun e w' => e = .returned (.int .i64 (cfZ a b)) ∧ Gr w w' := by
  obtain ⟨ak, an, ao⟩ := a
  obtain ⟨bk, bn, bo⟩ := b
  simp only [Rz.ok] at ha hb
  obtain ⟨a0, a1, a2, a3⟩ := ha
  obtain ⟨b0, b1, b2, b3⟩ := hb
  show Calls Try.prog _ #[.agg #[.string ak, .int .i64 an, .int .i64 ao], .agg #[.string bk, .int .i64 bn, .int .i64 bo]] w _
  obtain ⟨r, hr⟩ : ∃ r, r = cfZ ⟨ak, an, ao⟩ ⟨bk, bn, bo⟩ := ⟨_, rfl⟩
  rw [← hr]
  obtain ⟨x, hx⟩ : ∃ x, x = cmpR (bn, bo + 1) (an, ao + 1) := ⟨_, rfl⟩
  obtain ⟨y, hy⟩ : ∃ y, y = cmpI bn an := ⟨_, rfl⟩
  obtain ⟨z, hz⟩ : ∃ z, z = cmpS ak bk := ⟨_, rfl⟩
  have HX := Lib.hid hx
  have HY := Lib.hid hy
  have HZ := Lib.hid hz
  have HRV : Hid ((if x = 0 then (if y = 0 then z else y) else x) = r) := by
    show _ = _
    rw [hr, hx, hy, hz, cmpR, hld_ok b0 (by omega), hld_ok a0 (by omega)]
    rfl
  clear hx hy hz hr
  have hB1 : Hid (((w.alloc (.cells #[.string ak, .int .i64 an, .int .i64 ao] 35)).alloc (.cells #[.string bk, .int .i64 bn, .int .i64 bo] 35)).drew.heap[w.heap.size]? = some (.cells #[.string ak, .int .i64 an, .int .i64 ao] 35 (0, 0))) := blk_old (blk_new w _) _
  have hB2 : Hid (((w.alloc (.cells #[.string ak, .int .i64 an, .int .i64 ao] 35)).alloc (.cells #[.string bk, .int .i64 bn, .int .i64 bo] 35)).drew.heap[w.heap.size + 1]? = some (.cells #[.string bk, .int .i64 bn, .int .i64 bo] 35 (0, 0))) := blk_new2 _ _ _
  have HG : Hid (Gr w ((w.alloc (.cells #[.string ak, .int .i64 an, .int .i64 ao] 35)).alloc (.cells #[.string bk, .int .i64 bn, .int .i64 bo] 35)).drew) := (((Gr.refl w).alloc _).alloc _).drew
  go_enter Try.func45, Try.ntmps45
  go_wp2_with fail
  refine start_ (n := 18) (S := fun w' => w'.cell? ⟨w.heap.size, 0, none⟩ = some (.string ak) ∧ w'.cell? ⟨w.heap.size, 1, none⟩ = some (.int .i64 an) ∧ w'.cell? ⟨w.heap.size, 2, none⟩ = some (.int .i64 ao) ∧ w'.cell? ⟨w.heap.size + 1, 0, none⟩ = some (.string bk) ∧ w'.cell? ⟨w.heap.size + 1, 1, none⟩ = some (.int .i64 bn) ∧ w'.cell? ⟨w.heap.size + 1, 2, none⟩ = some (.int .i64 bo)) (ds := []) #[false, false, false, false, false, false, false, false, false, false, false, false, false, false, false, false, false, false] (by kernel_rfl) rfl rfl ⟨(blk_cell hB1.out 0), (blk_cell hB1.out 1), (blk_cell hB1.out 2), (blk_cell hB2.out 0), (blk_cell hB2.out 1), (blk_cell hB2.out 2)⟩ (fun hHeld => ?_)
  refine pure_ (i := 5) (N := some 10) (v := ?_) (a' := ?_) #[false, false, false, false, false, true, false, false, false, false, false, false, false, false, false, false, false, false] rfl rfl (by kernel_rfl) (fun _ _ _ h => h) (Or.inl ⟨by rfl, ?_⟩) ?_ ?_
  rotate_left
  · intro w'
    go_simp
    with_reducible rfl
  rotate_left
  · simp only [Act.put, List.setIfInBounds_toArray, List.set_cons_zero, List.set_cons_succ, i64_w, i32_w]
    rfl
  refine pure_ (i := 7) (N := some 12) (v := ?_) (a' := ?_) #[false, false, false, false, false, true, false, true, false, false, false, false, false, false, false, false, false, false] rfl rfl (by kernel_rfl) (fun _ _ _ h => h) (Or.inl ⟨by rfl, ?_⟩) ?_ ?_
  rotate_left
  · intro w'
    go_simp
    with_reducible rfl
  rotate_left
  · simp only [Act.put, List.setIfInBounds_toArray, List.set_cons_zero, List.set_cons_succ, i64_w, i32_w]
    rfl
  refine pure_ (i := 10) (N := some 15) (v := ?_) (a' := ?_) #[false, false, false, false, false, true, false, true, false, false, true, false, false, false, false, false, false, false] rfl rfl (by kernel_rfl) (fun _ _ _ h => h) (Or.inl ⟨by rfl, ?_⟩) ?_ ?_
  rotate_left
  · intro w'
    go_simp
    with_reducible rfl
  rotate_left
  · simp only [Act.put, List.setIfInBounds_toArray, List.set_cons_zero, List.set_cons_succ, i64_w, i32_w]
    rfl
  refine pure_ (i := 12) (N := some 17) (v := ?_) (a' := ?_) #[false, false, false, false, false, true, false, true, false, false, true, false, true, false, false, false, false, false] rfl rfl (by kernel_rfl) (fun _ _ _ h => h) (Or.inl ⟨by rfl, ?_⟩) ?_ ?_
  rotate_left
  · intro w'
    go_simp
    with_reducible rfl
  rotate_left
  · simp only [Act.put, List.setIfInBounds_toArray, List.set_cons_zero, List.set_cons_succ, i64_w, i32_w]
    rfl
  refine take_ (i := 0) (N := some 5) (v := ?_) (a' := ?_) #[true, false, false, false, false, true, false, true, false, false, true, false, true, false, false, false, false, false] rfl rfl (by kernel_rfl) (fun _ _ _ h => h) (Or.inl ⟨by rfl, ?_⟩) hHeld ?_ ?_
  rotate_left
  · rintro w' ⟨s0, s1, s2, s3, s4, s5⟩
    go_simp
    with_reducible rfl
  rotate_left
  · simp only [Act.put, List.setIfInBounds_toArray, List.set_cons_zero, List.set_cons_succ, i64_w, i32_w]
    rfl
  refine take_ (i := 2) (N := some 7) (v := ?_) (a' := ?_) #[true, false, true, false, false, true, false, true, false, false, true, false, true, false, false, false, false, false] rfl rfl (by kernel_rfl) (fun _ _ _ h => h) (Or.inl ⟨by rfl, ?_⟩) hHeld ?_ ?_
  rotate_left
  · rintro w' ⟨s0, s1, s2, s3, s4, s5⟩
    go_simp
    with_reducible rfl
  rotate_left
  · simp only [Act.put, List.setIfInBounds_toArray, List.set_cons_zero, List.set_cons_succ, i64_w, i32_w]
    rfl
  refine take_ (i := 6) (N := some 11) (v := ?_) (a' := ?_) #[true, false, true, false, false, true, true, true, false, false, true, false, true, false, false, false, false, false] rfl rfl (by kernel_rfl) (fun _ _ _ h => h) (Or.inl ⟨by rfl, ?_⟩) hHeld ?_ ?_
  rotate_left
  · rintro w' ⟨s0, s1, s2, s3, s4, s5⟩
    go_simp
    with_reducible rfl
  rotate_left
  · simp only [Act.put, List.setIfInBounds_toArray, List.set_cons_zero, List.set_cons_succ, i64_w, i32_w]
    rfl
  refine take_ (i := 8) (N := some 13) (v := ?_) (a' := ?_) #[true, false, true, false, false, true, true, true, true, false, true, false, true, false, false, false, false, false] rfl rfl (by kernel_rfl) (fun _ _ _ h => h) (Or.inl ⟨by rfl, ?_⟩) hHeld ?_ ?_
  rotate_left
  · rintro w' ⟨s0, s1, s2, s3, s4, s5⟩
    go_simp
    with_reducible rfl
  rotate_left
  · simp only [Act.put, List.setIfInBounds_toArray, List.set_cons_zero, List.set_cons_succ, i64_w, i32_w]
    rfl
  refine take_ (i := 11) (N := some 16) (v := ?_) (a' := ?_) #[true, false, true, false, false, true, true, true, true, false, true, true, true, false, false, false, false, false] rfl rfl (by kernel_rfl) (fun _ _ _ h => h) (Or.inl ⟨by rfl, ?_⟩) hHeld ?_ ?_
  rotate_left
  · rintro w' ⟨s0, s1, s2, s3, s4, s5⟩
    go_simp
    with_reducible rfl
  rotate_left
  · simp only [Act.put, List.setIfInBounds_toArray, List.set_cons_zero, List.set_cons_succ, i64_w, i32_w]
    rfl
  refine take_ (i := 13) (N := some 18) (v := ?_) (a' := ?_) #[true, false, true, false, false, true, true, true, true, false, true, true, true, true, false, false, false, false] rfl rfl (by kernel_rfl) (fun _ _ _ h => h) (Or.inl ⟨by rfl, ?_⟩) hHeld ?_ ?_
  rotate_left
  · rintro w' ⟨s0, s1, s2, s3, s4, s5⟩
    go_simp
    with_reducible rfl
  rotate_left
  · simp only [Act.put, List.setIfInBounds_toArray, List.set_cons_zero, List.set_cons_succ, i64_w, i32_w]
    rfl
  refine one_ (i := 1) (N := some 6) #[true, true, true, false, false, true, true, true, true, false, true, true, true, true, false, false, false, false] rfl rfl (by kernel_rfl) (by decide) (fun K hK => ?_)
  refine goes_ Try.func21 (by kernel_rfl) rfl #[.agg #[.string bk, .int .i64 bn, .int .i64 bo]] (by rfl) rfl rfl (by (try simp only [List.map_toArray, List.map_cons, List.map_nil]); first | done | rfl) ?_
  with_reducible refine (ratio_calls _ _ _ _ b0 b1 b2 b3).mono ?_
  rintro e w3 ⟨rfl, hg⟩
  refine ⟨_, rfl, ?_⟩
  replace hB1 := Lib.hid (blk_below hB1.out hg.below (blk_lt hB1.out))
  replace hB2 := Lib.hid (blk_below hB2.out hg.below (blk_lt hB2.out))
  replace HG := Lib.hid (HG.out.trans hg)
  clear hg
  refine hK.out _ _ ⟨(blk_cell hB1.out 0), (blk_cell hB1.out 1), (blk_cell hB1.out 2), (blk_cell hB2.out 0), (blk_cell hB2.out 1), (blk_cell hB2.out 2)⟩ (fun hHeld => ?_)
  clear hK K
  refine norm_ (a' := ?_) ?_ ?_
  rotate_left
  · show Act.put _ (some 6) _ = _
    simp only [Act.put, List.setIfInBounds_toArray, List.set_cons_zero, List.set_cons_succ, i64_w, i32_w]
    rfl
  refine one_ (i := 3) (N := some 8) #[true, true, true, true, false, true, true, true, true, false, true, true, true, true, false, false, false, false] rfl rfl (by kernel_rfl) (by decide) (fun K hK => ?_)
  refine goes_ Try.func21 (by kernel_rfl) rfl #[.agg #[.string ak, .int .i64 an, .int .i64 ao]] (by rfl) rfl rfl (by (try simp only [List.map_toArray, List.map_cons, List.map_nil]); first | done | rfl) ?_
  with_reducible refine (ratio_calls _ _ _ _ a0 a1 a2 a3).mono ?_
  rintro e w4 ⟨rfl, hg⟩
  refine ⟨_, rfl, ?_⟩
  replace hB1 := Lib.hid (blk_below hB1.out hg.below (blk_lt hB1.out))
  replace hB2 := Lib.hid (blk_below hB2.out hg.below (blk_lt hB2.out))
  replace HG := Lib.hid (HG.out.trans hg)
  clear hg
  refine hK.out _ _ ⟨(blk_cell hB1.out 0), (blk_cell hB1.out 1), (blk_cell hB1.out 2), (blk_cell hB2.out 0), (blk_cell hB2.out 1), (blk_cell hB2.out 2)⟩ (fun hHeld => ?_)
  clear hK K
  refine norm_ (a' := ?_) ?_ ?_
  rotate_left
  · show Act.put _ (some 8) _ = _
    simp only [Act.put, List.setIfInBounds_toArray, List.set_cons_zero, List.set_cons_succ, i64_w, i32_w]
    rfl
  refine one_ (i := 4) (N := some 9) #[true, true, true, true, true, true, true, true, true, false, true, true, true, true, false, false, false, false] rfl rfl (by kernel_rfl) (by decide) (fun K hK => ?_)
  refine goes_ Try.func20 (by kernel_rfl) rfl #[.agg #[.int .i64 bn, .int .i64 (bo + 1)], .agg #[.int .i64 an, .int .i64 (ao + 1)]] (by rfl) rfl rfl (by (try simp only [List.map_toArray, List.map_cons, List.map_nil]); first | done | rfl) ?_
  with_reducible refine (compareR_calls bn (bo + 1) an (ao + 1) _ (by omega) (by omega) (by omega) (by omega)).mono ?_
  rintro e w5 ⟨rfl, hg⟩
  refine ⟨_, rfl, ?_⟩
  rw [← HX.out]
  replace hB1 := Lib.hid (blk_below hB1.out hg.below (blk_lt hB1.out))
  replace hB2 := Lib.hid (blk_below hB2.out hg.below (blk_lt hB2.out))
  replace HG := Lib.hid (HG.out.trans hg)
  clear hg
  refine hK.out _ _ ⟨(blk_cell hB1.out 0), (blk_cell hB1.out 1), (blk_cell hB1.out 2), (blk_cell hB2.out 0), (blk_cell hB2.out 1), (blk_cell hB2.out 2)⟩ (fun hHeld => ?_)
  clear hK K
  refine norm_ (a' := ?_) ?_ ?_
  rotate_left
  · show Act.put _ (some 9) _ = _
    simp only [Act.put, List.setIfInBounds_toArray, List.set_cons_zero, List.set_cons_succ, i64_w, i32_w]
    rfl
  refine one_ (i := 9) (N := some 14) #[true, true, true, true, true, true, true, true, true, true, true, true, true, true, false, false, false, false] rfl rfl (by kernel_rfl) (by decide) (fun K hK => ?_)
  refine goes_ Try.func47 (by kernel_rfl) rfl #[.int .i64 bn, .int .i64 an] (by rfl) rfl rfl (by (try simp only [List.map_toArray, List.map_cons, List.map_nil]); first | done | rfl) ?_
  with_reducible refine (compare64_calls _ _ _).mono ?_
  rintro e w6 ⟨rfl, rfl⟩
  refine ⟨_, rfl, ?_⟩
  rw [← HY.out]
  refine hK.out _ _ ⟨(blk_cell hB1.out 0), (blk_cell hB1.out 1), (blk_cell hB1.out 2), (blk_cell hB2.out 0), (blk_cell hB2.out 1), (blk_cell hB2.out 2)⟩ (fun hHeld => ?_)
  clear hK K
  refine norm_ (a' := ?_) ?_ ?_
  rotate_left
  · show Act.put _ (some 14) _ = _
    simp only [Act.put, List.setIfInBounds_toArray, List.set_cons_zero, List.set_cons_succ, i64_w, i32_w]
    rfl
  refine one_ (i := 14) (N := some 19) #[true, true, true, true, true, true, true, true, true, true, true, true, true, true, true, false, false, false] rfl rfl (by kernel_rfl) (by decide) (fun K hK => ?_)
  refine goes_ Try.func48 (by kernel_rfl) rfl #[.string ak, .string bk] (by rfl) rfl rfl (by (try simp only [List.map_toArray, List.map_cons, List.map_nil]); first | done | rfl) ?_
  with_reducible refine (strCmp_gr _ _ _).mono ?_
  rintro e w7 ⟨rfl, rfl⟩
  refine ⟨_, rfl, ?_⟩
  rw [← HZ.out]
  refine hK.out _ _ ⟨(blk_cell hB1.out 0), (blk_cell hB1.out 1), (blk_cell hB1.out 2), (blk_cell hB2.out 0), (blk_cell hB2.out 1), (blk_cell hB2.out 2)⟩ (fun hHeld => ?_)
  clear hK K
  refine norm_ (a' := ?_) ?_ ?_
  rotate_left
  · show Act.put _ (some 19) _ = _
    simp only [Act.put, List.setIfInBounds_toArray, List.set_cons_zero, List.set_cons_succ, i64_w, i32_w]
    rfl
  refine one_ (i := 15) (N := some 20) #[true, true, true, true, true, true, true, true, true, true, true, true, true, true, true, true, false, false] rfl rfl (by kernel_rfl) (by decide) (fun K hK => ?_)
  refine value_ (w1 := ?_) (v := ?_) (by rfl) rfl ?_ ?_
  rotate_left 2
  · go_simp
    constructor
    · rfl
    · rfl
  replace hB1 := Lib.hid (blk_old hB1.out (.cells #[.int .i64 x, .int .i64 y, .int .i64 z] 3))
  replace hB2 := Lib.hid (blk_old hB2.out (.cells #[.int .i64 x, .int .i64 y, .int .i64 z] 3))
  replace HG := Lib.hid (HG.out.alloc (.cells #[.int .i64 x, .int .i64 y, .int .i64 z] 3))
  refine hK.out _ _ ⟨(blk_cell hB1.out 0), (blk_cell hB1.out 1), (blk_cell hB1.out 2), (blk_cell hB2.out 0), (blk_cell hB2.out 1), (blk_cell hB2.out 2)⟩ (fun hHeld => ?_)
  clear hK K
  refine norm_ (a' := ?_) ?_ ?_
  rotate_left
  · show Act.put _ (some 20) _ = _
    simp only [Act.put, List.setIfInBounds_toArray, List.set_cons_zero, List.set_cons_succ, i64_w, i32_w]
    rfl
  refine one_ (i := 16) (N := some 21) #[true, true, true, true, true, true, true, true, true, true, true, true, true, true, true, true, true, false] rfl rfl (by kernel_rfl) (by decide) (fun K hK => ?_)
  refine goes_ Try.func46 (by kernel_rfl) rfl #[.slice (some ⟨w7.heap.size, 0, none⟩) 3 3] (by rfl) rfl rfl (by (try simp only [List.map_toArray, List.map_cons, List.map_nil]); first | done | rfl) ?_
  with_reducible refine (or3_calls x y z w7.heap.size _ (by simp [go_sem]) (by simp [go_sem]) (by simp [go_sem])).mono ?_
  rintro e w8 ⟨rfl, rfl⟩
  refine ⟨_, rfl, ?_⟩
  rw [HRV.out]
  refine hK.out _ _ ⟨(blk_cell hB1.out 0), (blk_cell hB1.out 1), (blk_cell hB1.out 2), (blk_cell hB2.out 0), (blk_cell hB2.out 1), (blk_cell hB2.out 2)⟩ (fun hHeld => ?_)
  clear hK K
  refine norm_ (a' := ?_) ?_ ?_
  rotate_left
  · show Act.put _ (some 21) _ = _
    simp only [Act.put, List.setIfInBounds_toArray, List.set_cons_zero, List.set_cons_succ, i64_w, i32_w]
    rfl
  refine pure_ (i := 17) (N := some 4) (v := ?_) (a' := ?_) #[true, true, true, true, true, true, true, true, true, true, true, true, true, true, true, true, true, true] rfl rfl (by kernel_rfl) (fun _ _ _ h => h) (Or.inl ⟨by rfl, ?_⟩) ?_ ?_
  rotate_left
  · intro w'
    go_simp
    with_reducible rfl
  rotate_left
  · simp only [Act.put, List.setIfInBounds_toArray, List.set_cons_zero, List.set_cons_succ, i64_w, i32_w]
    rfl
  refine done_ (by kernel_rfl) ?_
  go_wp2
  go_ret
  exact ⟨rfl, HG.out⟩
end Go.Proofs.Ytmddlbgdmdepdaa
