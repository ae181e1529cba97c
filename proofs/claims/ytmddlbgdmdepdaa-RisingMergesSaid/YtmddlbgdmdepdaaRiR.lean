/- What rises in panes of adds is the recount's; the contracts of Of, Top, All and Same in these words. No condition. -/
import Derived.Test.YtmddlbgdmdepdaaRiQ
import Derived.Test.YtmddlbgdmdepdaaRiL
set_option linter.unusedVariables false
set_option linter.unusedSimpArgs false
set_option maxRecDepth 100000
namespace Go.Proofs.Ytmddlbgdmdepdaa
open Go.Maps Go.MapKept Go.RowKit Go.ChangeMaps Go.Shelf CK Go.Proofs.YtmddlbgdmdepdaaW.PrintLast

theorem refR_inv {G : ByteArray → Rz} (hG : ∀ k, (G k).key = k) (fl : Int) (r : List Add) (l : List Add) (out : List Rz) (h : (∀ c, c ∈ out ↔ c = G c.key ∧ 1 ≤ c.nw ∧ fl ≤ c.nw ∧ ∃ a ∈ l, a.key = c.key) ∧ out.Nodup) :
    (∀ c, c ∈ refR G fl l r out ↔ c = G c.key ∧ 1 ≤ c.nw ∧ fl ≤ c.nw ∧ ∃ a ∈ l ++ r, a.key = c.key) ∧ (refR G fl l r out).Nodup := by
  induction r generalizing l out with
  | nil => rw [List.append_nil]; exact h
  | cons a r ih =>
    rw [refR, show l ++ a :: r = (l ++ [a]) ++ r by simp]
    refine ih _ _ ?_
    have hany : (l.any fun x => decide (x.key = a.key)) = true ↔ ∃ x ∈ l, x.key = a.key := by rw [List.any_eq_true]; simp
    by_cases hc : (!(l.any fun x => decide (x.key = a.key)) && decide (1 ≤ (G a.key).nw) && decide (fl ≤ (G a.key).nw)) = true
    · rw [if_pos hc]
      simp only [Bool.and_eq_true, Bool.not_eq_true', decide_eq_true_eq] at hc
      have hno : ¬ ∃ x ∈ l, x.key = a.key := fun h' => by rw [hany.2 h'] at hc; cases hc.1.1
      refine ⟨fun c => ?_, ?_⟩
      · rw [putBy_mem, h.1 c]
        constructor
        · rintro (rfl | ⟨h1, h2, h3, x, hx, h4⟩)
          · exact ⟨by rw [hG], hc.1.2, hc.2, a, by simp, (hG _).symm⟩
          · exact ⟨h1, h2, h3, x, List.mem_append_left _ hx, h4⟩
        · rintro ⟨h1, h2, h3, x, hx, h4⟩
          rcases List.mem_append.1 hx with hx | hx
          · exact .inr ⟨h1, h2, h3, x, hx, h4⟩
          · simp at hx; subst hx
            left; rw [h1, ← h4]
      · rw [(putBy_perm _ _).nodup_iff, List.nodup_cons]
        refine ⟨fun h' => hno ?_, h.2⟩
        obtain ⟨_, _, _, x, hx, h3⟩ := (h.1 _).1 h'
        exact ⟨x, hx, h3.trans (hG _)⟩
    · rw [if_neg hc]
      refine ⟨fun c => ?_, h.2⟩
      rw [h.1 c]
      constructor
      · rintro ⟨h1, h2, h3, x, hx, h4⟩; exact ⟨h1, h2, h3, x, List.mem_append_left _ hx, h4⟩
      · rintro ⟨h1, h2, h3, x, hx, h4⟩
        rcases List.mem_append.1 hx with hx | hx
        · exact ⟨h1, h2, h3, x, hx, h4⟩
        · simp at hx; subst hx
          have e : G x.key = c := by rw [h4]; exact h1.symm
          have : (l.any fun y => decide (y.key = x.key)) = true := by
            cases h5 : (l.any fun y => decide (y.key = x.key))
            · exfalso; apply hc; rw [h5, e]; simp [h2, h3]
            · rfl
          obtain ⟨y, hy, h6⟩ := hany.1 this
          exact ⟨h1, h2, h3, y, hy, h6.trans h4⟩
theorem refR_inOrder {G : ByteArray → Rz} (hG : ∀ k, (G k).ok) (fl : Int) (r : List Add) (l : List Add) (out : List Rv) (h : InOrder cfV out) : InOrder cfZ (refR G fl l r (out.map (·.1))) := by
  induction r generalizing l out with
  | nil => exact inOrder_map h
  | cons a r ih =>
    rw [refR]
    split
    · rw [putBy_map (cf := cfV) (fun r : Rv => r.1) (fun _ _ => rfl) (⟨G a.key, hG _⟩ : Rv)]
      exact ih _ _ (putBy_inOrder cfV_ok h)
    · exact ih _ _ h
/-- what rises -/
def risL (l : List Add) (wd sp now fl : Int) : List Rz := if mayR wd sp now then refR (riseOf l wd sp now) fl [] l [] else []
/-- WHAT RISES IN PANES IS THE RECOUNT's -/
theorem rises_plain (l : List Add) (hl : l.length ≤ 60) (wd : Int) (hw : 1 ≤ wd) (sp now fl : Int) (hm : mayR wd sp now = true) :
    ofL (sumsOf wd l) wd sp now fl = refR (riseOf l wd sp now) fl [] l [] := by
  simp only [mayR, Bool.and_eq_true, decide_eq_true_eq] at hm
  obtain ⟨⟨⟨⟨s1, s2⟩, s3⟩, n1⟩, n2⟩ := hm
  have z0 : (now - now % wd) % wd = 0 := by rw [Int.sub_emod, Int.emod_emod_of_dvd _ (Int.dvd_refl _), Int.sub_self]; rfl
  have z1 : (now - now % wd - sp) % wd = 0 := by rw [Int.sub_emod, z0, s3]; rfl
  have z2 : (now - now % wd - 2 * sp) % wd = 0 := by rw [Int.sub_emod, z0, Int.mul_emod, s3]; simp
  have hok := fun k => riseOf_ok l hl wd sp now k
  obtain ⟨h1, h2⟩ := refR_inv (G := riseOf l wd sp now) (fun _ => rfl) fl l [] [] ⟨by simp, by simp⟩
  have hmem : ∀ c, c ∈ risesOf (sumsOf wd l) (keysIn (sumsOf wd l) ((now - now % wd - sp) / wd) ((now - now % wd) / wd)) ((now - now % wd - 2 * sp) / wd) ((now - now % wd - sp) / wd) ((now - now % wd) / wd) fl ↔ c = riseOf l wd sp now c.key ∧ 1 ≤ c.nw ∧ fl ≤ c.nw ∧ ∃ a ∈ l, a.key = c.key := fun c => by
    have e1 : ∀ k, psum (sumsOf wd l) k ((now - now % wd - sp) / wd) ((now - now % wd) / wd) = (riseOf l wd sp now k).nw := fun k => psum_sums wd hw l k _ _ z1 z0
    have e2 : ∀ k, psum (sumsOf wd l) k ((now - now % wd - 2 * sp) / wd) ((now - now % wd - sp) / wd) = (riseOf l wd sp now k).od := fun k => psum_sums wd hw l k _ _ z2 z1
    have hpos := fun key => psum_pos (sums_pos wd l) key ((now - now % wd - sp) / wd) ((now - now % wd) / wd)
    have er : ∀ k, (⟨k, psum (sumsOf wd l) k ((now - now % wd - sp) / wd) ((now - now % wd) / wd), psum (sumsOf wd l) k ((now - now % wd - 2 * sp) / wd) ((now - now % wd - sp) / wd)⟩ : Rz) = riseOf l wd sp now k := fun k => by rw [e1, e2]; rfl
    unfold risesOf
    rw [List.mem_map]
    constructor
    · rintro ⟨k, hk, rfl⟩
      obtain ⟨hk1, hk2⟩ := List.mem_filter.1 hk
      have h3 := (hpos k).2 hk1
      rw [er]
      refine ⟨rfl, ?_, ?_, ?_⟩
      · rw [e1] at h3; omega
      · rw [e1] at hk2; simpa using hk2
      · rw [e1] at h3; exact rangeSum_has h3
    · rintro ⟨h3, h4, h5, h6⟩
      refine ⟨c.key, List.mem_filter.2 ⟨(hpos _).1 ?_, ?_⟩, ?_⟩
      · rw [e1, ← h3]; omega
      · rw [e1, ← h3]; simpa using h5
      · rw [er]; exact h3.symm
  have hnd : (risesOf (sumsOf wd l) (keysIn (sumsOf wd l) ((now - now % wd - sp) / wd) ((now - now % wd) / wd)) ((now - now % wd - 2 * sp) / wd) ((now - now % wd - sp) / wd) ((now - now % wd) / wd) fl).Nodup := by
    unfold risesOf
    exact List.Pairwise.map _ (fun a b hab h' => hab (congrArg Rz.key h')) ((keysIn_nodup _ _ _).filter _)
  have hokl : ∀ r ∈ risesOf (sumsOf wd l) (keysIn (sumsOf wd l) ((now - now % wd - sp) / wd) ((now - now % wd) / wd)) ((now - now % wd - 2 * sp) / wd) ((now - now % wd - sp) / wd) ((now - now % wd) / wd) fl, r.ok := fun r hr => by rw [((hmem r).1 hr).1]; exact hok _
  have hp : (ofL (sumsOf wd l) wd sp now fl).Perm (refR (riseOf l wd sp now) fl [] l []) := (sortBy_perm _).trans ((List.perm_ext_iff_of_nodup hnd h2).2 fun c => by rw [hmem c, h1 c, List.nil_append])
  refine inOrder_flip cfZ_flip hp (sortZ_inOrder hokl) (refR_inOrder hok fl l [] [] List.Pairwise.nil) fun x hx y hy e => ?_
  have k1 := ((h1 x).1 (hp.mem_iff.1 hx)).1
  have k2 := ((h1 y).1 (hp.mem_iff.1 hy)).1
  rw [k1, k2, cfZ_eq e]
theorem sums_len' (wd : Int) (l : List Add) : (sumsOf wd l).length ≤ l.length := by
  refine snoc_ind (p := fun l => (sumsOf wd l).length ≤ l.length) (by simp [sumsOf]) (fun l a ih => ?_) l
  rw [sumsOf_snoc, List.length_append, List.length_singleton]
  split
  · unfold addTo
    split
    · unfold putA
      split
      · rw [List.length_map]; omega
      · rw [List.length_append, List.length_singleton]; omega
    · omega
  · omega
theorem of_any (w : World) (l : List Add) (hl : l.length ≤ 60) (p : Nat) (wd ad : Int) (b : Nat) (sp now fl : Int) (h : PanesAt w p wd ad b (sumsOf wd l)) :
    Calls Try.prog 18 #[.pointer (some ⟨p, 0, none⟩), .int .i64 sp, .int .i64 now, .int .i64 fl] w (RowPost encZ 3 w (risL l wd sp now fl)) := by
  unfold risL
  cases hm : mayR wd sp now
  · exact of_no w p wd ad b _ sp now fl h hm
  · rw [if_pos rfl, ← rises_plain l hl wd h.w1 sp now fl hm]
    exact of_calls w p wd ad b _ sp now fl h (by have := sums_len' wd l; omega) hm
theorem all_any (w : World) (l : List Add) (v : Value) (wd sp now fl : Int) (h : AddsAt w l v) (hl : l.length ≤ 60) (hw : 1 ≤ wd) :
    Calls Try.prog 36 #[v, .int .i64 wd, .int .i64 sp, .int .i64 now, .int .i64 fl] w (RowPost encZ 3 w (risL l wd sp now fl)) := rall_calls w l v wd sp now fl h hl hw
theorem top19_calls (w : World) (pv : Value) (sp now fl n : Int) (L : List Rz) (h : Calls Try.prog 18 #[pv, .int .i64 sp, .int .i64 now, .int .i64 fl] w (RowPost encZ 3 w L)) :
    Calls Try.prog 37 #[pv, .int .i64 sp, .int .i64 now, .int .i64 fl, .int .i64 n] w (RowPost encZ 3 w (L.take (min (max n 0) L.length).toNat)) := by
  have HC := Lib.hid h
  clear h
  go_enter Try.func37, Try.ntmps37
  go_wp2_with fail
  refine HC.out.mono ?_
  rintro e w1 ⟨v, rfl, hr, hb⟩
  have HR := Lib.hid hr
  have HB := Lib.hid hb
  obtain ⟨so, cap, rfl, hmx⟩ := SliceR.shape hr
  have hcap : L.length ≤ cap := by
    rcases hr with ⟨h0, _, _, h1, _⟩ | ⟨_, _, _, h0, _, h1, _⟩
    · rw [h0]; simp
    · cases h0; omega
  have hl : L.length ≤ 9223372036854775807 := by unfold maxLen at *; omega
  have HF : Hid (∀ c : Nat, (c : Int) = min (max n 0) L.length → RowPost encZ 3 w (L.take (min (max n 0) L.length).toNat) (.returned (.slice so c cap)) w1) := fun c hc => by
    refine ⟨_, rfl, ?_, HB.out⟩
    rw [show (min (max n 0) (L.length : Int)).toNat = c by omega]
    exact CK.RowK.take HR.out c (by omega) rfl
  clear hr hb
  go_wp2
  all_goals
    go_ret
    first
    | exact HF.out 0 (by omega)
    | exact HF.out _ (by omega)
    | (have h9 := HF.out n.toNat (by omega); exact h9)
set_option maxHeartbeats 1000000 in
theorem sameZ_calls (w : World) (l1 l2 : List Rz) (v1 v2 : Value) (h1 : CK.RowK encZ 3 w l1 v1) (h2 : CK.RowK encZ 3 w l2 v2) (heq : l1 = l2) : Calls Try.prog 35 #[v1, v2] w (BoolPost w true) := by
  subst heq
  have H1 := Lib.hid h1
  have H2 := Lib.hid h2
  obtain ⟨o1, c1, rfl, hmx⟩ := SliceR.shape h1
  obtain ⟨o2, c2, rfl, _⟩ := SliceR.shape h2
  have hl : l1.length ≤ 9223372036854775807 := by unfold maxLen at *; omega
  clear h1 h2
  go_enter Try.func35, Try.ntmps35
  go_wp2
  go_loopg [5] l1.length (fun m i wr => ∃ k : Nat, k + m = l1.length ∧ i = .int .i64 k ∧ Hid (Below w.heap.size w wr))
  case atStart => exact ⟨0, by omega, rfl, Below.refl _ _⟩
  case round =>
    obtain ⟨k, hkm, rfl, HB⟩ := hrel
    by_cases hkn : k < l1.length
    · obtain ⟨b1, f1, d1, q1, hb1, e1⟩ := CK.RowK.cell (H1.out.below HB.out) hkn
      obtain ⟨b2, f2, d2, q2, hb2, e2⟩ := CK.RowK.cell (H2.out.below HB.out) hkn
      cases q1
      cases q2
      obtain ⟨⟨ck, cn, co⟩, hc⟩ : ∃ c : Rz, c = l1[k] := ⟨_, rfl⟩
      rw [← hc] at e1 e2
      have a0 : wr.cell? ⟨b1, f1 + k * 3, none⟩ = some (.string ck) := (e1 0 (by omega)).trans rfl
      have a1 : wr.cell? ⟨b1, f1 + k * 3 + 1, none⟩ = some (.int .i64 cn) := (e1 1 (by omega)).trans rfl
      have a2 : wr.cell? ⟨b1, f1 + k * 3 + 2, none⟩ = some (.int .i64 co) := (e1 2 (by omega)).trans rfl
      have a3 : wr.cell? ⟨b2, f2 + k * 3, none⟩ = some (.string ck) := (e2 0 (by omega)).trans rfl
      have a4 : wr.cell? ⟨b2, f2 + k * 3 + 1, none⟩ = some (.int .i64 cn) := (e2 1 (by omega)).trans rfl
      have a5 : wr.cell? ⟨b2, f2 + k * 3 + 2, none⟩ = some (.int .i64 co) := (e2 2 (by omega)).trans rfl
      clear e1 e2 hc
      go_wp2
      go_quiet (fail)
      go_wp2
      go_roundg (l1.length - (k + 1))
      case measure => omega
      case rel => exact ⟨k + 1, by omega, by go_num, below_drewN HB.out _⟩
    · obtain rfl : k = l1.length := by omega
      go_wp2
      go_ret
      exact ⟨rfl, HB.out⟩
end Go.Proofs.Ytmddlbgdmdepdaa
