/- (*pane.Panes).Merge: it takes another one's sums in. No condition. -/
import Derived.Test.YtmddlbgdmdepdaaRiV
import Derived.Test.YtmddlbgdmdepdaaShelfC
set_option linter.unusedVariables false
set_option linter.unusedSimpArgs false
set_option maxRecDepth 100000
namespace Go.Proofs.Ytmddlbgdmdepdaa
open Go.Maps Go.MapKept Go.RowKit Go.ChangeMaps Go.Shelf CK Go.Proofs.YtmddlbgdmdepdaaW.PrintLast

/-- a map into which another one's pairs are added, one behind the other -/
def mergeM (M l : Sums) : Sums := l.foldl (fun M c => putA M c.1 ((lookA M c.1).getD 0 + c.2)) M
theorem mergeM_snoc (M l : Sums) (c : (ByteArray × Int) × Int) : mergeM M (l ++ [c]) = putA (mergeM M l) c.1 ((lookA (mergeM M l) c.1).getD 0 + c.2) := by
  unfold mergeM; rw [List.foldl_append]; rfl
theorem mergeM_keys {M : Sums} (h : (M.map (·.1)).Nodup) (l : Sums) : ((mergeM M l).map (·.1)).Nodup := by
  refine snoc_ind (p := fun l => ((mergeM M l).map (·.1)).Nodup) h (fun l c ih => ?_) l
  rw [mergeM_snoc]
  exact keys_putA ih _ _
theorem mergeM_psum {M : Sums} (h : (M.map (·.1)).Nodup) (key : ByteArray) (f e : Int) (l : Sums) : psum (mergeM M l) key f e = psum M key f e + psum l key f e := by
  refine snoc_ind (p := fun l => psum (mergeM M l) key f e = psum M key f e + psum l key f e) (by simp [mergeM, psum]) (fun l c ih => ?_) l
  rw [mergeM_snoc, psum_putA (mergeM_keys h l), ih, psum_snoc]
  omega
theorem mergeM_tot {M : Sums} (h : (M.map (·.1)).Nodup) (l : Sums) : ptot (mergeM M l) = ptot M + ptot l := by
  refine snoc_ind (p := fun l => ptot (mergeM M l) = ptot M + ptot l) (by simp [mergeM, ptot]) (fun l c ih => ?_) l
  rw [mergeM_snoc, ptot_putA (mergeM_keys h l), ih, ptot_app]
  simp [ptot]; omega
theorem mergeM_pos {M : Sums} (hM : ∀ c ∈ M, 0 < c.2) (l : Sums) (hl : ∀ c ∈ l, 0 < c.2) : ∀ c ∈ mergeM M l, 0 < c.2 := by
  refine snoc_ind (p := fun l => (∀ c ∈ l, 0 < c.2) → ∀ c ∈ mergeM M l, 0 < c.2) (fun _ => hM) (fun l d ih h => ?_) l hl
  have ih' := ih fun c hc => h c (List.mem_append_left _ hc)
  have hd := h d (by simp)
  rw [mergeM_snoc]
  intro c hc
  rcases mem_putA hc with rfl | hc
  · have : 0 ≤ (lookA (mergeM M l) d.1).getD 0 := by
      cases e : lookA (mergeM M l) d.1 with
      | none => simp
      | some v => have := ih' _ (lookA_mem' e); simp at this ⊢; omega
    show 0 < _ + d.2
    omega
  · exact ih' c hc
theorem mergeM_ok {M : Sums} (hM : ∀ c ∈ M, okCell c) (l : Sums) (hl : ∀ c ∈ l, okCell c) : ∀ c ∈ mergeM M l, okCell c := by
  refine snoc_ind (p := fun l => (∀ c ∈ l, okCell c) → ∀ c ∈ mergeM M l, okCell c) (fun _ => hM) (fun l d ih h => ?_) l hl
  have ih' := ih fun c hc => h c (List.mem_append_left _ hc)
  have hd := h d (by simp)
  rw [mergeM_snoc]
  intro c hc
  rcases mem_putA hc with rfl | hc
  · have : 0 ≤ (lookA (mergeM M l) d.1).getD 0 := by
      cases e : lookA (mergeM M l) d.1 with
      | none => simp
      | some v => have := (ih' _ (lookA_mem' e)).2.2.2; simp at this ⊢; omega
    refine ⟨hd.1, hd.2.1, hd.2.2.1, ?_⟩
    have := hd.2.2.2
    show 0 ≤ _ + d.2
    omega
  · exact ih' c hc
/-- what a merging leaves -/
def MergePost (w : World) (p : Nat) (wd ad : Int) (b : Nat) (m : Sums) (e : Ending) (w' : World) : Prop :=
  e = .returned (.bool true) ∧ Fr [p, b] w w' ∧ PanesAt w' p wd ad b m
theorem merge_end {w w' : World} {p : Nat} {wd ad ad2 : Int} {b : Nat} {m m2 : Sums} {q b2 : Nat} (h : PanesAt w p wd ad b m) (h2 : PanesAt w q wd ad2 b2 m2) (ha : ad + ad2 ≤ 1048576) {l r : Sums} (hl : (l ++ r).Perm m2)
    (hb : w'.heap[p]? = some (.cells #[.int .i64 wd, .int .i64 (ad + ad2), .map (some b)] 79 (0, 0))) (hm : MapT Try.prog 82 ekCell (Value.int .i64) w' b (mergeM m l)) : PanesAt w' p wd (ad + ad2) b (mergeM m l) := by
  have h1 := h.a1
  have h3 := h2.a1
  have h4 := h.tot
  have h5 := h2.tot
  refine ⟨hb, hm, h.w1, h.w2, by omega, ha, mergeM_ok h.ok l fun c hc => h2.ok c (hl.mem_iff.1 (List.mem_append_left _ hc)), ?_⟩
  have h6 := ptot_perm hl
  rw [ptot_app] at h6
  have h7 := ptot_nonneg (m := r) fun c hc => h2.ok c (hl.mem_iff.1 (List.mem_append_right _ hc))
  rw [mergeM_tot h.map.keys]
  omega
set_option maxHeartbeats 1000000 in
theorem clone_calls (w : World) (b : Nat) (m : Sums) (h : MapT Try.prog 82 ekCell (Value.int .i64) w b m) :
    Calls Try.prog 63 #[.map (some b)] w fun e w' => e = .returned (.map (some w.heap.size)) ∧ MapT Try.prog 82 ekCell (Value.int .i64) w' w.heap.size m ∧ w'.heap.size = w.heap.size + 1 ∧ Below w.heap.size w w' := by
  obtain ⟨es, c, hb, h2⟩ := h
  have hcon := AnyW.maps_Clone Try.cloneL b es c w hb
  refine Calls.mono (show Calls Try.prog 63 _ _ _ from hcon) ?_
  rintro e w' ⟨rfl, rfl⟩
  exact ⟨rfl, ⟨es, c, blk_new w _, h2⟩, by simp, (Below.refl _ w).alloc (Nat.le_refl _) _⟩
set_option maxHeartbeats 2000000 in
theorem merge_calls (w : World) (p : Nat) (wd ad : Int) (b : Nat) (m : Sums) (q : Nat) (ad2 : Int) (b2 : Nat) (m2 : Sums) (h : PanesAt w p wd ad b m) (h2 : PanesAt w q wd ad2 b2 m2) (ha : ad + ad2 ≤ 1048576)
    (n1 : q ≠ p) (n2 : b2 ≠ b) (n3 : b2 ≠ p) : Calls Try.prog 38 #[.pointer (some ⟨p, 0, none⟩), .pointer (some ⟨q, 0, none⟩)] w fun e w' => ∃ l : Sums, l.Perm m2 ∧ MergePost w p wd (ad + ad2) b (mergeM m l) e w' := by
  have c0 := h.c0
  have c1 := h.c1
  have c2 := h.c2
  have e0 := h2.c0
  have e1 := h2.c1
  have e2 := h2.c2
  have f1 := blk_free h.blk 1
  have HP := Lib.hid h
  have HQ := Lib.hid h2
  have a1 := h.a1
  have a2 := h2.a1
  have N1 : Hid (q ≠ p) := n1
  have N2 : Hid (b2 ≠ b) := n2
  have N3 : Hid (b2 ≠ p) := n3
  have HA : Hid (ad + ad2 ≤ 1048576) := ha
  have k1 : (wd != wd) = false := by simp
  have k2 : decide (1048576 < ad + ad2) = false := by rw [decide_eq_false_iff_not]; omega
  clear h h2 n1 n2 n3
  go_enter Try.func38, Try.ntmps38
  go_wp2_with fail
  have u1 : IntKind.i64.wrap (ad + ad2) = ad + ad2 := IntWalk.i64_in _ (by omega)
  have u2 : wrap64 (ad + ad2) = ad + ad2 := by unfold wrap64; omega
  refine start_ (n := 25) (S := fun w' => w'.cell? ⟨p, 0, none⟩ = some (.int .i64 wd) ∧ w'.cell? ⟨p, 1, none⟩ = some (.int .i64 ad) ∧ w'.cell? ⟨q, 0, none⟩ = some (.int .i64 wd) ∧ w'.cell? ⟨q, 1, none⟩ = some (.int .i64 ad2)) (ds := []) #[false, false, false, false, false, false, false, false, false, false, false, false, false, false, false, false, false, false, false, false, false, false, false, false, false] (by kernel_rfl) rfl rfl ⟨c0, c1, e0, e1⟩ (fun hHeld => ?_)
  refine pure_ (i := 0) (N := some 7) (v := ?_) (a' := ?_) #[true, false, false, false, false, false, false, false, false, false, false, false, false, false, false, false, false, false, false, false, false, false, false, false, false] rfl rfl (by kernel_rfl) (fun _ _ _ h => h) (Or.inl ⟨by rfl, ?_⟩) ?_ ?_
  rotate_left
  · intro w'
    go_simp
    with_reducible rfl
  rotate_left
  · simp only [Act.put, List.setIfInBounds_toArray, List.set_cons_zero, List.set_cons_succ, i64_w, i32_w]
    rfl
  refine pure_ (i := 1) (N := some 8) (v := ?_) (a' := ?_) #[true, true, false, false, false, false, false, false, false, false, false, false, false, false, false, false, false, false, false, false, false, false, false, false, false] rfl rfl (by kernel_rfl) (fun _ _ _ h => h) (Or.inl ⟨by rfl, ?_⟩) ?_ ?_
  rotate_left
  · intro w'
    go_simp
    with_reducible rfl
  rotate_left
  · simp only [Act.put, List.setIfInBounds_toArray, List.set_cons_zero, List.set_cons_succ, i64_w, i32_w]
    rfl
  refine pure_ (i := 2) (N := some 9) (v := ?_) (a' := ?_) #[true, true, true, false, false, false, false, false, false, false, false, false, false, false, false, false, false, false, false, false, false, false, false, false, false] rfl rfl (by kernel_rfl) (fun _ _ _ h => h) (Or.inl ⟨by rfl, ?_⟩) ?_ ?_
  rotate_left
  · intro w'
    go_simp
    with_reducible rfl
  rotate_left
  · simp only [Act.put, List.setIfInBounds_toArray, List.set_cons_zero, List.set_cons_succ, i64_w, i32_w]
    rfl
  refine pure_ (i := 3) (N := some 10) (v := ?_) (a' := ?_) #[true, true, true, true, false, false, false, false, false, false, false, false, false, false, false, false, false, false, false, false, false, false, false, false, false] rfl rfl (by kernel_rfl) (fun _ _ _ h => h) (Or.inl ⟨by rfl, ?_⟩) ?_ ?_
  rotate_left
  · intro w'
    go_simp
    with_reducible rfl
  rotate_left
  · simp only [Act.put, List.setIfInBounds_toArray, List.set_cons_zero, List.set_cons_succ, i64_w, i32_w]
    rfl
  refine pure_ (i := 4) (N := some 11) (v := ?_) (a' := ?_) #[true, true, true, true, true, false, false, false, false, false, false, false, false, false, false, false, false, false, false, false, false, false, false, false, false] rfl rfl (by kernel_rfl) (fun _ _ _ h => h) (Or.inl ⟨by rfl, ?_⟩) ?_ ?_
  rotate_left
  · intro w'
    go_simp
    with_reducible rfl
  rotate_left
  · simp only [Act.put, List.setIfInBounds_toArray, List.set_cons_zero, List.set_cons_succ, i64_w, i32_w]
    rfl
  refine pure_ (i := 5) (N := some 12) (v := ?_) (a' := ?_) #[true, true, true, true, true, true, false, false, false, false, false, false, false, false, false, false, false, false, false, false, false, false, false, false, false] rfl rfl (by kernel_rfl) (fun _ _ _ h => h) (Or.inl ⟨by rfl, ?_⟩) ?_ ?_
  rotate_left
  · intro w'
    go_simp
    with_reducible rfl
  rotate_left
  · simp only [Act.put, List.setIfInBounds_toArray, List.set_cons_zero, List.set_cons_succ, i64_w, i32_w]
    rfl
  refine pure_ (i := 7) (N := some 14) (v := ?_) (a' := ?_) #[true, true, true, true, true, true, false, true, false, false, false, false, false, false, false, false, false, false, false, false, false, false, false, false, false] rfl rfl (by kernel_rfl) (fun _ _ _ h => h) (Or.inl ⟨by rfl, ?_⟩) ?_ ?_
  rotate_left
  · intro w'
    go_simp
    with_reducible rfl
  rotate_left
  · simp only [Act.put, List.setIfInBounds_toArray, List.set_cons_zero, List.set_cons_succ, i64_w, i32_w]
    rfl
  refine pure_ (i := 8) (N := some 15) (v := ?_) (a' := ?_) #[true, true, true, true, true, true, false, true, true, false, false, false, false, false, false, false, false, false, false, false, false, false, false, false, false] rfl rfl (by kernel_rfl) (fun _ _ _ h => h) (Or.inl ⟨by rfl, ?_⟩) ?_ ?_
  rotate_left
  · intro w'
    go_simp
    with_reducible rfl
  rotate_left
  · simp only [Act.put, List.setIfInBounds_toArray, List.set_cons_zero, List.set_cons_succ, i64_w, i32_w]
    rfl
  refine pure_ (i := 9) (N := some 16) (v := ?_) (a' := ?_) #[true, true, true, true, true, true, false, true, true, true, false, false, false, false, false, false, false, false, false, false, false, false, false, false, false] rfl rfl (by kernel_rfl) (fun _ _ _ h => h) (Or.inl ⟨by rfl, ?_⟩) ?_ ?_
  rotate_left
  · intro w'
    go_simp
    with_reducible rfl
  rotate_left
  · simp only [Act.put, List.setIfInBounds_toArray, List.set_cons_zero, List.set_cons_succ, i64_w, i32_w]
    rfl
  refine take_ (i := 6) (N := some 13) (v := ?_) (a' := ?_) #[true, true, true, true, true, true, true, true, true, true, false, false, false, false, false, false, false, false, false, false, false, false, false, false, false] rfl rfl (by kernel_rfl) (fun _ _ _ h => h) (Or.inl ⟨by rfl, ?_⟩) hHeld ?_ ?_
  rotate_left
  · rintro w' ⟨s0, s1, s2, s3⟩
    go_simp
    with_reducible rfl
  rotate_left
  · simp only [Act.put, List.setIfInBounds_toArray, List.set_cons_zero, List.set_cons_succ, i64_w, i32_w]
    rfl
  refine take_ (i := 10) (N := some 17) (v := ?_) (a' := ?_) #[true, true, true, true, true, true, true, true, true, true, true, false, false, false, false, false, false, false, false, false, false, false, false, false, false] rfl rfl (by kernel_rfl) (fun _ _ _ h => h) (Or.inl ⟨by rfl, ?_⟩) hHeld ?_ ?_
  rotate_left
  · rintro w' ⟨s0, s1, s2, s3⟩
    go_simp
    with_reducible rfl
  rotate_left
  · simp only [Act.put, List.setIfInBounds_toArray, List.set_cons_zero, List.set_cons_succ, i64_w, i32_w]
    rfl
  refine pure_ (i := 11) (N := some 18) (v := ?_) (a' := ?_) #[true, true, true, true, true, true, true, true, true, true, true, true, false, false, false, false, false, false, false, false, false, false, false, false, false] rfl rfl (by kernel_rfl) (fun _ _ _ h => h) (Or.inl ⟨by rfl, ?_⟩) ?_ ?_
  rotate_left
  · intro w'
    go_simp
    with_reducible rfl
  rotate_left
  · simp only [Act.put, List.setIfInBounds_toArray, List.set_cons_zero, List.set_cons_succ, i64_w, i32_w]
    rfl
  refine pure_ (i := 12) (N := some 19) (v := ?_) (a' := ?_) #[true, true, true, true, true, true, true, true, true, true, true, true, true, false, false, false, false, false, false, false, false, false, false, false, false] rfl rfl (by kernel_rfl) (fun _ _ _ h => h) (Or.inl ⟨by rfl, ?_⟩) ?_ ?_
  rotate_left
  · intro w'
    go_simp
    with_reducible rfl
  rotate_left
  · simp only [Act.put, List.setIfInBounds_toArray, List.set_cons_zero, List.set_cons_succ, i64_w, i32_w]
    rfl
  refine pure_ (i := 13) (N := some 20) (v := ?_) (a' := ?_) #[true, true, true, true, true, true, true, true, true, true, true, true, true, true, false, false, false, false, false, false, false, false, false, false, false] rfl rfl (by kernel_rfl) (fun _ _ _ h => h) (Or.inl ⟨by rfl, ?_⟩) ?_ ?_
  rotate_left
  · intro w'
    go_simp
    with_reducible rfl
  rotate_left
  · simp only [Act.put, List.setIfInBounds_toArray, List.set_cons_zero, List.set_cons_succ, i64_w, i32_w]
    rfl
  refine pure_ (i := 14) (N := some 21) (v := ?_) (a' := ?_) #[true, true, true, true, true, true, true, true, true, true, true, true, true, true, true, false, false, false, false, false, false, false, false, false, false] rfl rfl (by kernel_rfl) (fun _ _ _ h => h) (Or.inl ⟨by rfl, ?_⟩) ?_ ?_
  rotate_left
  · intro w'
    go_simp
    with_reducible rfl
  rotate_left
  · simp only [Act.put, List.setIfInBounds_toArray, List.set_cons_zero, List.set_cons_succ, i64_w, i32_w]
    rfl
  refine pure_ (i := 15) (N := some 22) (v := ?_) (a' := ?_) #[true, true, true, true, true, true, true, true, true, true, true, true, true, true, true, true, false, false, false, false, false, false, false, false, false] rfl rfl (by kernel_rfl) (fun _ _ _ h => h) (Or.inl ⟨by rfl, ?_⟩) ?_ ?_
  rotate_left
  · intro w'
    go_simp
    with_reducible rfl
  rotate_left
  · simp only [Act.put, List.setIfInBounds_toArray, List.set_cons_zero, List.set_cons_succ, i64_w, i32_w]
    rfl
  refine pure_ (i := 16) (N := some 23) (v := ?_) (a' := ?_) #[true, true, true, true, true, true, true, true, true, true, true, true, true, true, true, true, true, false, false, false, false, false, false, false, false] rfl rfl (by kernel_rfl) (fun _ _ _ h => h) (Or.inl ⟨by rfl, ?_⟩) ?_ ?_
  rotate_left
  · intro w'
    go_simp
    with_reducible rfl
  rotate_left
  · simp only [Act.put, List.setIfInBounds_toArray, List.set_cons_zero, List.set_cons_succ, i64_w, i32_w]
    rfl
  refine pure_ (i := 18) (N := some 25) (v := ?_) (a' := ?_) #[true, true, true, true, true, true, true, true, true, true, true, true, true, true, true, true, true, false, true, false, false, false, false, false, false] rfl rfl (by kernel_rfl) (fun _ _ _ h => h) (Or.inl ⟨by rfl, ?_⟩) ?_ ?_
  rotate_left
  · intro w'
    go_simp
    with_reducible rfl
  rotate_left
  · simp only [Act.put, List.setIfInBounds_toArray, List.set_cons_zero, List.set_cons_succ, i64_w, i32_w]
    rfl
  refine pure_ (i := 19) (N := some 26) (v := ?_) (a' := ?_) #[true, true, true, true, true, true, true, true, true, true, true, true, true, true, true, true, true, false, true, true, false, false, false, false, false] rfl rfl (by kernel_rfl) (fun _ _ _ h => h) (Or.inl ⟨by rfl, ?_⟩) ?_ ?_
  rotate_left
  · intro w'
    go_simp
    with_reducible rfl
  rotate_left
  · simp only [Act.put, List.setIfInBounds_toArray, List.set_cons_zero, List.set_cons_succ, i64_w, i32_w]
    rfl
  refine pure_ (i := 20) (N := some 27) (v := ?_) (a' := ?_) #[true, true, true, true, true, true, true, true, true, true, true, true, true, true, true, true, true, false, true, true, true, false, false, false, false] rfl rfl (by kernel_rfl) (fun _ _ _ h => h) (Or.inl ⟨by rfl, ?_⟩) ?_ ?_
  rotate_left
  · intro w'
    go_simp
    with_reducible rfl
  rotate_left
  · simp only [Act.put, List.setIfInBounds_toArray, List.set_cons_zero, List.set_cons_succ, i64_w, i32_w]
    rfl
  refine take_ (i := 17) (N := some 24) (v := ?_) (a' := ?_) #[true, true, true, true, true, true, true, true, true, true, true, true, true, true, true, true, true, true, true, true, true, false, false, false, false] rfl rfl (by kernel_rfl) (fun _ _ _ h => h) (Or.inl ⟨by rfl, ?_⟩) hHeld ?_ ?_
  rotate_left
  · rintro w' ⟨s0, s1, s2, s3⟩
    go_simp
    with_reducible rfl
  rotate_left
  · simp only [Act.put, List.setIfInBounds_toArray, List.set_cons_zero, List.set_cons_succ, i64_w, i32_w]
    rfl
  refine take_ (i := 21) (N := some 28) (v := ?_) (a' := ?_) #[true, true, true, true, true, true, true, true, true, true, true, true, true, true, true, true, true, true, true, true, true, true, false, false, false] rfl rfl (by kernel_rfl) (fun _ _ _ h => h) (Or.inl ⟨by rfl, ?_⟩) hHeld ?_ ?_
  rotate_left
  · rintro w' ⟨s0, s1, s2, s3⟩
    go_simp
    with_reducible rfl
  rotate_left
  · simp only [Act.put, List.setIfInBounds_toArray, List.set_cons_zero, List.set_cons_succ, i64_w, i32_w]
    rfl
  refine pure_ (i := 22) (N := some 29) (v := ?_) (a' := ?_) #[true, true, true, true, true, true, true, true, true, true, true, true, true, true, true, true, true, true, true, true, true, true, true, false, false] rfl rfl (by kernel_rfl) (fun _ _ _ h => h) (Or.inl ⟨by rfl, ?_⟩) ?_ ?_
  rotate_left
  · intro w'
    go_simp
    with_reducible rfl
  rotate_left
  · simp only [Act.put, List.setIfInBounds_toArray, List.set_cons_zero, List.set_cons_succ, i64_w, i32_w]
    rfl
  refine pure_ (i := 23) (N := some 30) (v := ?_) (a' := ?_) #[true, true, true, true, true, true, true, true, true, true, true, true, true, true, true, true, true, true, true, true, true, true, true, true, false] rfl rfl (by kernel_rfl) (fun _ _ _ h => h) (Or.inl ⟨by rfl, ?_⟩) ?_ ?_
  rotate_left
  · intro w'
    go_simp
    with_reducible rfl
  rotate_left
  · simp only [Act.put, List.setIfInBounds_toArray, List.set_cons_zero, List.set_cons_succ, i64_w, i32_w]
    rfl
  refine pure_ (i := 24) (N := some 31) (v := ?_) (a' := ?_) #[true, true, true, true, true, true, true, true, true, true, true, true, true, true, true, true, true, true, true, true, true, true, true, true, true] rfl rfl (by kernel_rfl) (fun _ _ _ h => h) (Or.inl ⟨by rfl, ?_⟩) ?_ ?_
  rotate_left
  · intro w'
    go_simp
    with_reducible rfl
  rotate_left
  · simp only [Act.put, List.setIfInBounds_toArray, List.set_cons_zero, List.set_cons_succ, i64_w, i32_w]
    rfl
  refine done_ (by kernel_rfl) ?_
  clear hHeld
  go_wp2_with fail
  go_region_with fail
  go_wp2_with fail
  all_goals
    obtain ⟨w1, hw1⟩ : ∃ w1, w1 = (w.setCell ⟨p, 1, none⟩ (.int .i64 (ad + ad2))).drew.drew := ⟨_, rfl⟩
    have hB : Hid (w1.heap[p]? = some (.cells #[.int .i64 wd, .int .i64 (ad + ad2), .map (some b)] 79 (0, 0))) := by
      rw [hw1]; exact blk_set (i := 1) HP.out.blk (.int .i64 (ad + ad2))
    have hM : Hid (MapT Try.prog 82 ekCell (Value.int .i64) w1 b m) := by
      rw [hw1]; exact (HP.out.map.setCell HP.out.ne _).drew.drew
    have hM2 : MapT Try.prog 82 ekCell (Value.int .i64) w1 b2 m2 := by
      rw [hw1]; exact (HQ.out.map.setCell N3.out _).drew.drew
    have hF : Hid (Fr [p, b] w w1) := by
      rw [hw1]; exact ((Fr.refl _ w).setCell (.inl (by simp)) _).drew.drew
    rw [← hw1]
    clear hw1 c0 c1 c2 e0 e1 e2 f1 k1 k2 u1 u2
    refine (clone_calls w1 b2 m2 hM2).mono ?_
    rintro e w2 ⟨rfl, hm2, hs2, hb2⟩
    have hp0 := blk_lt HP.out.blk
    have hb0 := HP.out.map.lt
    have hs1 := hF.out.size
    replace hB := Lib.hid (blk_below hB.out hb2 (blk_lt hB.out))
    replace hM := Lib.hid (hM.out.below hb2 hM.out.lt)
    replace hF := Lib.hid (hF.out.trans (Fr.of_below hb2 []) (fun x hx => .inl hx) (by simp))
    obtain ⟨cb, hcb⟩ : ∃ cb, cb = w1.heap.size := ⟨_, rfl⟩
    rw [← hcb] at hm2 hs2 hs1
    rw [← hcb]
    have HCB : Hid (p < cb ∧ b < cb ∧ w.heap.size ≤ cb) := ⟨by omega, by omega, by omega⟩
    have HM2 := Lib.hid hm2
    clear hcb hb2 hM2 hm2 hs1 hp0 hb0
    go_wp2_with (at_range; refine wpList_rangeT _ rfl _ _ rfl _ _ Try.underlying77 ekCell (Value.int .i64) cb m2 rfl HM2.out ?_; intro w0 hit hb3 hs3)
    go_frame
    replace hB := Lib.hid (blk_below hB.out hb3 (blk_lt hB.out))
    replace hM := Lib.hid (hM.out.below hb3 hM.out.lt)
    replace hF := Lib.hid (hF.out.trans (Fr.of_below hb3 []) (fun x hx => .inl hx) (by simp))
    obtain ⟨r, hr⟩ : ∃ r, r = w2.heap.size := ⟨_, rfl⟩
    rw [← hr] at hit
    rw [← hr]
    have HRC : Hid (r = cb + 1) := hr.trans hs2
    have HP0 : Hid (PanesAt w0 p wd (ad + ad2) b (mergeM m [])) := merge_end (l := []) (r := m2) HP.out HQ.out HA.out (List.Perm.refl _) hB.out hM.out
    clear hr hs2 hs3 hb3 hM hB HM2 ha
    go_loopg [] m2.length (fun k wr => ∃ vis left, k = left.length ∧ IterT Try.prog 82 ekCell (Value.int .i64) wr r cb m2 vis left ∧ Hid (PanesAt wr p wd (ad + ad2) b (mergeM m vis)) ∧ Hid (Fr [p, b] w wr))
    case atStart => exact ⟨[], m2, rfl, hit, HP0, hF⟩
    case round =>
      clear HP0 hF
      obtain ⟨vis, left, rfl, hit, HPw, HF⟩ := hrel
      go_wp2_with (at_next; refine wpList_nextT _ rfl _ rfl _ ekCell (Value.int .i64) r cb m2 vis left rfl hit ?_ ?_)
      · intro hl
        have HL := Lib.hid hl
        have HI := Lib.hid hit
        clear hl hit
        go_wp2
        go_ret
        refine ⟨vis, ?_, rfl, HF.out, HPw.out⟩
        have := HI.out.perm
        rw [HL.out, List.append_nil] at this
        exact this
      · intro s pn n r1 r2 w' hl hit' hfr hsz hen
        have hen' := hen w' rfl rfl
        unfold ekCell at hen'
        have HL := Lib.hid hl
        have HI' := Lib.hid hit'
        have hpw : PanesAt w' p wd (ad + ad2) b (mergeM m vis) := HPw.out.same (hfr.block p (blk_lt HPw.out.blk) (by have := HCB.out; have := HRC.out; simp; omega)) (hfr.block b HPw.out.map.lt (by have := HCB.out; have := HRC.out; simp; omega))
        have HFw := Lib.hid (HF.out.trans hfr (fun x hx => .inl hx) (fun x hx => .inr (by have := HCB.out; have := HRC.out; simp at hx; omega)))
        have hokc := HQ.out.ok ((s, pn), n) (HI'.out.perm.mem_iff.1 (by simp))
        have hn1 := ptot_mem HQ.out.ok ((s, pn), n) (HI'.out.perm.mem_iff.1 (by simp))
        have hn2 := HQ.out.tot
        have hn3 := HQ.out.a2
        have hob := old_bd hpw (s, pn)
        obtain ⟨k1, k2, k3, k4⟩ := hokc
        simp only at k1 k2 k3 k4 hn1
        generalize hold : (lookA (mergeM m vis) (s, pn)).getD 0 = old at *
        have HO := Lib.hid hold
        have BA := blk_new w' (.cells #[.string s, .int .i64 pn] 82)
        have hgood := cellGood s pn (by unfold maxLen; omega) (WalkArith.wf_i64 (by omega))
        have hW : MapT Try.prog 82 ekCell (Value.int .i64) (w'.alloc (.cells #[.string s, .int .i64 pn] 82)).drew b (mergeM m vis) := (hpw.map.alloc _).drew
        have hz : ∀ W : World, (zeroValue 2).run Try.prog W = .ok (.int .i64 0) W := fun _ => by kernel_rfl
        obtain ⟨W1, W2, si, o1, o2, o3, o4, hm2, fr1, fr2, sz1, sz2⟩ := hW.opAssign cellKeyed ekCell_inj Try.underlying77 hz hgood old HO.out (old + n)
        have hwr : IntKind.i64.wrap (old + n) = old + n := IntWalk.i64_in _ (by omega)
        have HM := Lib.hid hm2
        have HF2 := Lib.hid fr2
        have d0 : w'.cell? ⟨p, 2, none⟩ = some (.map (some b)) := hpw.c2
        have hpl := blk_lt hpw.blk
        have HPx := Lib.hid hpw
        unfold ekCell at o1 o2 o3
        clear hm2 fr1 fr2 sz1 sz2 hW hgood hz hold hl hit hit' hfr hsz hen hpw BA
        go_wp2_with fail
        go_region_with fail
        all_goals
          go_wp2_with fail
          go_roundg (r1 ++ r2).length
          case measure => rw [HL.out]; simp; try omega
          case rel =>
            refine ⟨vis ++ [((s, pn), n)], r1 ++ r2, rfl, ?_, ?_, ?_⟩
            · exact IterT.fr (w := (w'.alloc (.cells #[.string s, .int .i64 pn] 82)).drew) (HI'.out.same (Below.heap_alloc _ _ _ HI'.out.lt.2.1) (Below.heap_alloc _ _ _ HI'.out.lt.1)) HF2.out (by have := HCB.out; simp; omega) (by have := HCB.out; have := HRC.out; simp; omega)
            · refine merge_end HP.out HQ.out HA.out HI'.out.perm (blk_fr (w := (w'.alloc (.cells #[.string s, .int .i64 pn] 82)).drew) (blk_old HPx.out.blk _) HF2.out (by simp; have := HP.out.ne; omega)) ?_
              rw [mergeM_snoc, HO.out]; exact HM.out
            · exact (HFw.out.alloc (.cells #[.string s, .int .i64 pn] 82)).drew.trans HF2.out (fun x hx => .inl hx) (fun x hx => .inl (by simp at hx; simp [hx]))
end Go.Proofs.Ytmddlbgdmdepdaa
