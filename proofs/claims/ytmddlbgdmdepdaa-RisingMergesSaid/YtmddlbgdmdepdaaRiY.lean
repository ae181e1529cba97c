/- RisingMerges: the law's function returns true, by a walk. No condition. -/
import Derived.Test.YtmddlbgdmdepdaaRiX
set_option linter.unusedVariables false
set_option linter.unusedSimpArgs false
set_option maxRecDepth 100000
namespace Go.Proofs.Ytmddlbgdmdepdaa
open Go.Maps Go.MapKept Go.RowKit Go.ChangeMaps Go.Shelf CK Go.Proofs.YtmddlbgdmdepdaaW.PrintLast

theorem rangeSum_two (l m : List Add) (key : ByteArray) (f e : Int) : rangeSum (l ++ m) key f e = rangeSum l key f e + rangeSum m key f e := by
  unfold rangeSum; rw [List.filter_append, List.map_append, List.sum_append]
theorem psum_mul (wd : Int) (hw : 1 ≤ wd) (l : List Add) (key : ByteArray) (f g : Int) : psum (sumsOf wd l) key f g = rangeSum l key (f * wd) (g * wd) := by
  have := psum_sums wd hw l key (f * wd) (g * wd) (Int.mul_emod_left _ _) (Int.mul_emod_left _ _)
  rwa [Int.mul_ediv_cancel _ (by omega), Int.mul_ediv_cancel _ (by omega)] at this
theorem ofL_same {m m' : Sums} (h1 : ∀ c ∈ m, 0 < c.2) (h2 : ∀ c ∈ m', 0 < c.2) (h : ∀ k f g, psum m k f g = psum m' k f g) (hb : ∀ k f g, psum m' k f g ≤ 4611686018427387904) (wd sp now fl : Int) : ofL m wd sp now fl = ofL m' wd sp now fl := by
  have hks : ∀ f g, (keysIn m f g).Perm (keysIn m' f g) := fun f g => (List.perm_ext_iff_of_nodup (keysIn_nodup _ _ _) (keysIn_nodup _ _ _)).2 fun k => by rw [← psum_pos h1, ← psum_pos h2, h]
  have hr : ∀ ks a b c, risesOf m ks a b c fl = risesOf m' ks a b c fl := fun ks a b c => by unfold risesOf; simp only [h]
  have hok : ∀ ks a b c, ∀ r ∈ risesOf m' ks a b c fl, r.ok := fun ks a b c r hr => by
    rw [(risesOf_mem hr).2.1]
    exact ⟨psum_nn h2 _ _ _, hb _ _ _, psum_nn h2 _ _ _, hb _ _ _⟩
  unfold ofL
  rw [hr]
  refine inOrder_flip cfZ_flip ((sortBy_perm _).trans ((risesOf_perm (hks _ _) _ _ _ _).trans (sortBy_perm _).symm)) (sortZ_inOrder (hok _ _ _ _)) (sortZ_inOrder (hok _ _ _ _)) fun x hx y hy e => ?_
  exact risesOf_one x ((sortBy_perm _).mem_iff.1 hx) y ((sortBy_perm _).mem_iff.1 hy) e
theorem putA_len {α β : Type} [DecidableEq α] (m : List (α × β)) (k : α) (v : β) : (putA m k v).length ≤ m.length + 1 := by
  unfold putA; split <;> simp
theorem mergeM_len (M l : Sums) : (mergeM M l).length ≤ M.length + l.length := by
  refine snoc_ind (p := fun l => (mergeM M l).length ≤ M.length + l.length) (by simp [mergeM]) (fun l c ih => ?_) l
  rw [mergeM_snoc, List.length_append]
  have := putA_len (mergeM M l) c.1 ((lookA (mergeM M l) c.1).getD 0 + c.2)
  simp; omega
theorem of_merged (w : World) (l m : List Add) (hl : l.length + m.length ≤ 1000) (p : Nat) (wd ad : Int) (b : Nat) (lx : Sums) (sp now fl : Int) (hx : lx.Perm (sumsOf wd m)) (h : PanesAt w p wd ad b (mergeM (sumsOf wd l) lx)) :
    Calls Try.prog 18 #[.pointer (some ⟨p, 0, none⟩), .int .i64 sp, .int .i64 now, .int .i64 fl] w (RowPost encZ 3 w (risL (l ++ m) wd sp now fl)) := by
  unfold risL
  cases hm : mayR wd sp now
  · exact of_no w p wd ad b _ sp now fl h hm
  · have hw := h.w1
    have hnd : ((sumsOf wd l).map (·.1)).Nodup := sums_keys wd l
    rw [if_pos rfl, ← rises_plain2 (l ++ m) (by rw [List.length_append]; exact hl) wd hw sp now fl hm, ← ofL_same (m := mergeM (sumsOf wd l) lx) (mergeM_pos (sums_pos wd l) lx fun c hc => sums_pos wd m c (hx.mem_iff.1 hc)) (sums_pos wd (l ++ m))
      (fun k f g => by rw [mergeM_psum hnd, psum_perm hx, psum_mul wd hw, psum_mul wd hw, psum_mul wd hw, rangeSum_two])
      (fun k f g => by rw [psum_mul wd hw]; have := rangeSum_bd (l ++ m) k (f * wd) (g * wd); rw [List.length_append] at this; omega) wd sp now fl]
    have h1 := mergeM_len (sumsOf wd l) lx
    have h2 := sums_len' wd l
    have h3 := sums_len' wd m
    have h4 := hx.length_eq
    exact of_calls w p wd ad b _ sp now fl h (by omega) hm

/-! ### the map of what both rose -/
def evR (x : ByteArray × Int) : Value := .agg #[.string x.1, .int .i64 x.2, .int .i64 0]
theorem riseGood : ∀ W : World, (zeroValue 35).run Try.prog W = .ok (evR (⟨#[]⟩, 0)) W := fun _ => by kernel_rfl
def oldM (l : List Rz) : List (ByteArray × (ByteArray × Int)) := l.foldl (fun M r => putA M r.key (r.key, ((lookA M r.key).getD (⟨#[]⟩, 0)).2 + r.nw)) []
theorem oldM_snoc (l : List Rz) (r : Rz) : oldM (l ++ [r]) = putA (oldM l) r.key (r.key, ((lookA (oldM l) r.key).getD (⟨#[]⟩, 0)).2 + r.nw) := by
  unfold oldM; rw [List.foldl_append]; rfl
def newOf (l : List Rz) (k : ByteArray) : Int := ((l.filter fun r => decide (r.key = k)).map Rz.nw).sum
theorem newOf_app (a b : List Rz) (k : ByteArray) : newOf (a ++ b) k = newOf a k + newOf b k := by
  unfold newOf; rw [List.filter_append, List.map_append, List.sum_append]
theorem newOf_one (r : Rz) (k : ByteArray) : newOf [r] k = if r.key = k then r.nw else 0 := by
  unfold newOf
  by_cases h : r.key = k <;> simp [List.filter_cons, h]
theorem newOf_none {l : List Rz} {k : ByteArray} (h : ∀ r ∈ l, r.key ≠ k) : newOf l k = 0 := by
  unfold newOf
  rw [List.filter_eq_nil_iff.2 (fun r hr => by simpa using h r hr)]; rfl
theorem newOf_mem {l : List Rz} (h : (l.map Rz.key).Nodup) {r : Rz} (hr : r ∈ l) : newOf l r.key = r.nw := by
  induction l with
  | nil => cases hr
  | cons a t ih =>
    rw [List.map_cons, List.nodup_cons] at h
    rw [show a :: t = [a] ++ t from rfl, newOf_app, newOf_one]
    rcases List.mem_cons.1 hr with rfl | hr
    · rw [if_pos rfl, newOf_none fun x hx e => h.1 (List.mem_map.2 ⟨x, hx, e⟩)]; omega
    · rw [if_neg fun e => h.1 (List.mem_map.2 ⟨r, hr, e.symm⟩), ih h.2 hr]; omega
theorem newOf_bd (l : List Rz) (B : Int) (h : ∀ r ∈ l, 0 ≤ r.nw ∧ r.nw ≤ B) (hB : 0 ≤ B) (k : ByteArray) : 0 ≤ newOf l k ∧ newOf l k ≤ l.length * B := by
  induction l with
  | nil => simp [newOf]
  | cons a t ih =>
    have h1 := h a (by simp)
    have h2 := ih fun r hr => h r (List.mem_cons_of_mem _ hr)
    rw [show a :: t = [a] ++ t from rfl, newOf_app, newOf_one, List.length_append, List.length_singleton]
    push_cast
    rw [Int.add_mul]
    split <;> omega
theorem oldM_look (k : ByteArray) (l : List Rz) : ((lookA (oldM l) k).getD (⟨#[]⟩, 0)).2 = newOf l k := by
  refine snoc_ind (p := fun l => ((lookA (oldM l) k).getD (⟨#[]⟩, 0)).2 = newOf l k) rfl (fun l r ih => ?_) l
  rw [oldM_snoc, lookA_putA, newOf_app, newOf_one]
  by_cases h : k = r.key
  · rw [if_pos h, if_pos h.symm, ← ih, h]; rfl
  · rw [if_neg h, if_neg (Ne.symm h), ih]; omega
theorem oldM_nodup (l : List Rz) : ((oldM l).map (·.1)).Nodup := by
  refine snoc_ind (p := fun l => ((oldM l).map (·.1)).Nodup) (by simp [oldM]) (fun l r ih => ?_) l
  rw [oldM_snoc]; exact keys_putA ih _ _
theorem putA_keys {α β : Type} [DecidableEq α] (m : List (α × β)) (k : α) (v : β) (x : α) : x ∈ (putA m k v).map (·.1) ↔ x = k ∨ x ∈ m.map (·.1) := by
  unfold putA
  split
  · rename_i h
    have : ((m.map fun p => if p.1 = k then (k, v) else p).map (·.1)) = m.map (·.1) := by
      rw [List.map_map]
      refine List.map_congr_left fun p _ => ?_
      simp only [Function.comp]
      split <;> simp_all
    rw [this]
    constructor
    · exact .inr
    · rintro (rfl | h')
      · obtain ⟨p, hp, e⟩ := List.any_eq_true.1 h
        exact List.mem_map.2 ⟨p, hp, by simpa using e⟩
      · exact h'
  · rw [List.map_append, List.mem_append]
    simp [or_comm]
theorem oldM_key (k : ByteArray) (l : List Rz) : k ∈ (oldM l).map (·.1) ↔ ∃ r ∈ l, r.key = k := by
  refine snoc_ind (p := fun l => k ∈ (oldM l).map (·.1) ↔ ∃ r ∈ l, r.key = k) (by simp [oldM]) (fun l r ih => ?_) l
  rw [oldM_snoc, putA_keys, ih]
  constructor
  · rintro (rfl | ⟨x, hx, e⟩)
    · exact ⟨r, by simp, rfl⟩
    · exact ⟨x, List.mem_append_left _ hx, e⟩
  · rintro ⟨x, hx, e⟩
    rcases List.mem_append.1 hx with hx | hx
    · exact .inr ⟨x, hx, e⟩
    · simp at hx; subst hx; exact .inl e.symm
theorem risL_keys (l : List Add) (hl : l.length ≤ 1000) (wd sp now fl : Int) : ((risL l wd sp now fl).map Rz.key).Nodup := by
  obtain ⟨h1, h2, _⟩ := risL_facts l hl wd sp now fl
  rw [List.Nodup, List.pairwise_map]
  exact h2.imp_of_mem fun {a b} ha hb hab e => hab (by rw [((h1 a).1 ha).2.1, ((h1 b).1 hb).2.1, e])
theorem risL_has (l : List Add) (hl : l.length ≤ 1000) (wd sp now : Int) (hm : mayR wd sp now = true) (k : ByteArray) : (∃ r ∈ risL l wd sp now 0, r.key = k) ↔ 1 ≤ (riseOf l wd sp now k).nw := by
  obtain ⟨h1, _, _⟩ := risL_facts l hl wd sp now 0
  constructor
  · rintro ⟨r, hr, rfl⟩
    obtain ⟨_, e, h, _⟩ := (h1 r).1 hr
    rw [← e]; exact h
  · intro h
    refine ⟨riseOf l wd sp now k, (h1 _).2 ⟨hm, rfl, h, by omega, ?_⟩, rfl⟩
    have h : 1 ≤ rangeSum l k (now - now % wd - sp) (now - now % wd) := h
    exact rangeSum_has (show 0 < rangeSum l k (now - now % wd - sp) (now - now % wd) by omega)
theorem risL_new (l : List Add) (hl : l.length ≤ 1000) (wd sp now : Int) (hm : mayR wd sp now = true) (k : ByteArray) : newOf (risL l wd sp now 0) k = (riseOf l wd sp now k).nw := by
  obtain ⟨h1, _, _⟩ := risL_facts l hl wd sp now 0
  have h0 := (riseOf_ok2 l hl wd sp now k).1
  by_cases h : 1 ≤ (riseOf l wd sp now k).nw
  · obtain ⟨r, hr, rfl⟩ := (risL_has l hl wd sp now hm k).2 h
    rw [newOf_mem (risL_keys l hl wd sp now 0) hr, ← ((h1 r).1 hr).2.1]
  · rw [newOf_none fun r hr e => h ((risL_has l hl wd sp now hm k).1 ⟨r, hr, e⟩)]; omega
/-- OF MERGED PANES EACH KEY's NEW IS THE SUM OF BOTH, AND THERE ARE JUST THE KEYS OF EITHER -/
theorem merges_plain (l m : List Add) (hl : l.length ≤ 60) (hm : m.length ≤ 60) (wd sp now : Int) :
    (∀ r ∈ risL (l ++ m) wd sp now 0, newOf (risL l wd sp now 0 ++ risL m wd sp now 0) r.key = r.nw) ∧ (risL (l ++ m) wd sp now 0).length = (oldM (risL l wd sp now 0 ++ risL m wd sp now 0)).length := by
  have hlm : (l ++ m).length ≤ 1000 := by rw [List.length_append]; omega
  have hadd : ∀ k, (riseOf (l ++ m) wd sp now k).nw = (riseOf l wd sp now k).nw + (riseOf m wd sp now k).nw := fun k => rangeSum_two l m k _ _
  cases hmay : mayR wd sp now
  · unfold risL; simp [hmay, oldM]
  · refine ⟨fun r hr => ?_, ?_⟩
    · rw [newOf_app, risL_new l (by omega) wd sp now hmay, risL_new m (by omega) wd sp now hmay, ← hadd]
      rw [← (((risL_facts (l ++ m) hlm wd sp now 0).1 r).1 hr).2.1]
    · have hp : ((risL (l ++ m) wd sp now 0).map Rz.key).Perm ((oldM (risL l wd sp now 0 ++ risL m wd sp now 0)).map (·.1)) := by
        refine (List.perm_ext_iff_of_nodup (risL_keys _ hlm _ _ _ _) (oldM_nodup _)).2 fun k => ?_
        have g1 := (riseOf_ok2 l (by omega) wd sp now k).1
        have g2 := (riseOf_ok2 m (by omega) wd sp now k).1
        rw [oldM_key, List.mem_map, risL_has (l ++ m) hlm wd sp now hmay k, hadd]
        have e1 := risL_has l (by omega) wd sp now hmay k
        have e2 := risL_has m (by omega) wd sp now hmay k
        constructor
        · intro h
          by_cases h' : 1 ≤ (riseOf l wd sp now k).nw
          · obtain ⟨r, hr, e⟩ := e1.2 h'
            exact ⟨r, List.mem_append_left _ hr, e⟩
          · obtain ⟨r, hr, e⟩ := e2.2 (by omega)
            exact ⟨r, List.mem_append_right _ hr, e⟩
        · rintro ⟨r, hr, e⟩
          rcases List.mem_append.1 hr with hr | hr
          · have := e1.1 ⟨r, hr, e⟩; omega
          · have := e2.1 ⟨r, hr, e⟩; omega
      have := hp.length_eq
      rwa [List.length_map, List.length_map] at this
theorem key_small {l : List Add} {key : ByteArray} {f e : Int} (h : 0 < rangeSum l key f e) : key.size ≤ 24 := by
  unfold rangeSum at h
  cases hf : l.filter fun a => rightB a && decide (a.key = key) && (decide (f ≤ a.at_) && decide (a.at_ < e)) with
  | nil => rw [hf] at h; simp at h
  | cons a t =>
    have ha : a ∈ l.filter fun a => rightB a && decide (a.key = key) && (decide (f ≤ a.at_) && decide (a.at_ < e)) := by rw [hf]; simp
    have h2 := (List.mem_filter.1 ha).2
    simp only [rightB, Bool.and_eq_true, decide_eq_true_eq] at h2
    have h3 : a.key = key := h2.1.2
    rw [← h3]; omega
theorem risL_bd (l : List Add) (hl : l.length ≤ 1000) (wd sp now : Int) : ∀ r ∈ risL l wd sp now 0, r.key.size ≤ 24 ∧ 0 ≤ r.nw ∧ r.nw ≤ l.length * 1048576 := fun r hr => by
  obtain ⟨_, e, h, _⟩ := ((risL_facts l hl wd sp now 0).1 r).1 hr
  have h1 : r.nw = rangeSum l r.key (now - now % wd - sp) (now - now % wd) := congrArg Rz.nw e
  have h2 := rangeSum_bd l r.key (now - now % wd - sp) (now - now % wd)
  exact ⟨key_small (l := l) (f := now - now % wd - sp) (e := now - now % wd) (by omega), by omega, by omega⟩
theorem risL_len (l : List Add) (wd sp now fl : Int) : (risL l wd sp now fl).length ≤ l.length := by
  unfold risL; split
  · have := refR_len (riseOf l wd sp now) fl l [] []; simpa using this
  · simp
set_option maxHeartbeats 4000000 in
theorem law_merges (n : Int) (l : List Add) (v : Value) (m : List Add) (vm : Value) (sp now : Int) (w : World) (h0 : (Lit.int .i64 n).wf = true) (hl : AddsAt w l v) (hm : AddsAt w m vm) (h1 : (Lit.int .i64 sp).wf = true) (h2 : (Lit.int .i64 now).wf = true) :
    Calls Try.prog 12 #[.int .i64 n, v, vm, .int .i64 sp, .int .i64 now] w (BoolPost w true) := by
  clear h0 h1 h2
  have HL := Lib.hid hl
  have HM := Lib.hid hm
  have HB : Hid (Below w.heap.size w w) := Below.refl _ _
  clear hl hm
  cases hlong : longC l
  case true =>
    have HLo := Lib.hid hlong
    clear hlong
    go_enter Try.func12, Try.ntmps12
    go_wp2_with fail
    refine (long19_calls _ l _ HL.out).mono ?_
    rintro e' w1 ⟨rfl, hb⟩
    rw [HLo.out]
    replace HB := Lib.hid (HB.out.trans ((show Below _ _ _ from hb).mono HB.out.size))
    clear hb
    go_wp2_with fail
    refine (awake19_calls _).mono ?_
    rintro e' w3 ⟨rfl, hb⟩
    replace HB := Lib.hid (HB.out.trans ((show Below _ _ _ from hb).mono HB.out.size))
    clear hb
    go_wp2
    go_ret
    exact ⟨rfl, HB.out⟩
  have hlen := longC_false hlong
  have HLo := Lib.hid hlong
  clear hlong
  cases hlong2 : longC m
  case true =>
    have HLo2 := Lib.hid hlong2
    clear hlong2
    go_enter Try.func12, Try.ntmps12
    go_wp2_with fail
    refine (long19_calls _ l _ HL.out).mono ?_
    rintro e' w1 ⟨rfl, hb⟩
    rw [HLo.out]
    replace HM := Lib.hid (HM.out.below hb)
    replace HB := Lib.hid (HB.out.trans ((show Below _ _ _ from hb).mono HB.out.size))
    clear hb
    go_wp2_with fail
    refine (long19_calls _ m _ HM.out).mono ?_
    rintro e' w2 ⟨rfl, hb⟩
    rw [HLo2.out]
    replace HB := Lib.hid (HB.out.trans ((show Below _ _ _ from hb).mono HB.out.size))
    clear hb
    go_wp2_with fail
    refine (awake19_calls _).mono ?_
    rintro e' w3 ⟨rfl, hb⟩
    replace HB := Lib.hid (HB.out.trans ((show Below _ _ _ from hb).mono HB.out.size))
    clear hb
    go_wp2
    go_ret
    exact ⟨rfl, HB.out⟩
  have hlen2 := longC_false hlong2
  have HLo2 := Lib.hid hlong2
  clear hlong2
  go_enter Try.func12, Try.ntmps12
  go_wp2_with fail
  refine (long19_calls _ l _ HL.out).mono ?_
  rintro e' w1 ⟨rfl, hb⟩
  rw [HLo.out]
  replace HL := Lib.hid (HL.out.below hb)
  replace HM := Lib.hid (HM.out.below hb)
  replace HB := Lib.hid (HB.out.trans ((show Below _ _ _ from hb).mono HB.out.size))
  clear hb
  go_wp2_with fail
  refine (long19_calls _ m _ HM.out).mono ?_
  rintro e' w2 ⟨rfl, hb⟩
  rw [HLo2.out]
  replace HL := Lib.hid (HL.out.below hb)
  replace HM := Lib.hid (HM.out.below hb)
  replace HB := Lib.hid (HB.out.trans ((show Below _ _ _ from hb).mono HB.out.size))
  clear hb
  clear HLo HLo2
  go_wp2_with fail
  refine (fill19_calls _ n l _ HL.out (by omega)).mono ?_
  rintro e' w3 ⟨p, pb, rfl, hp1, g1, g2, hb⟩
  have hw0 := HB.out.size
  have HGE : Hid (w.heap.size ≤ p ∧ w.heap.size ≤ pb) := ⟨by omega, by omega⟩
  have HPL : Hid (p < w3.heap.size ∧ pb < w3.heap.size) := ⟨blk_lt hp1.blk, hp1.map.lt⟩
  have HP := Lib.hid hp1
  replace HM := Lib.hid (HM.out.below hb)
  clear hp1 g1 g2 hw0 HL
  replace HB := Lib.hid (HB.out.trans ((show Below _ _ _ from hb).mono HB.out.size))
  clear hb
  go_wp2_with fail
  refine (fill19_calls _ n m _ HM.out (by omega)).mono ?_
  rintro e' w4 ⟨q, qb, rfl, hq1, g1, g2, hb⟩
  have HPQ : Hid (q ≠ p ∧ qb ≠ pb ∧ qb ≠ p) := by have := HPL.out; exact ⟨by omega, by omega, by omega⟩
  have HQ := Lib.hid hq1
  replace HP := Lib.hid (HP.out.below hb)
  have HPL4 : Hid (p < w4.heap.size ∧ pb < w4.heap.size) := ⟨blk_lt HP.out.blk, HP.out.map.lt⟩
  replace HPL := HPL4
  clear hq1 g1 g2 HM HPL4
  replace HB := Lib.hid (HB.out.trans ((show Below _ _ _ from hb).mono HB.out.size))
  clear hb
  obtain ⟨wd, hwd⟩ : ∃ wd, wd = min (max n 1) 1099511627776 := ⟨_, rfl⟩
  rw [← hwd] at HP HQ
  clear hwd
  obtain ⟨L1, hL1⟩ : ∃ L1, L1 = risL l wd sp now 0 := ⟨_, rfl⟩
  obtain ⟨L2, hL2⟩ : ∃ L2, L2 = risL m wd sp now 0 := ⟨_, rfl⟩
  obtain ⟨RA, hRA⟩ : ∃ RA, RA = risL (l ++ m) wd sp now 0 := ⟨_, rfl⟩
  obtain ⟨HPN, hPK⟩ := merges_plain l m (by omega) (by omega) wd sp now
  have HN := Lib.hid HPN
  have HK := Lib.hid hPK
  clear HPN hPK
  rw [← hL1, ← hL2, ← hRA] at HN HK
  have hB1 : Hid (L1.length ≤ 40 ∧ ∀ r ∈ L1, r.key.size ≤ 24 ∧ 0 ≤ r.nw ∧ r.nw ≤ 62914560) := by
    rw [hL1]
    exact ⟨Nat.le_trans (risL_len l wd sp now 0) hlen, fun r hr => by have := risL_bd l (by omega) wd sp now r hr; omega⟩
  have hB2 : Hid (L2.length ≤ 40 ∧ ∀ r ∈ L2, r.key.size ≤ 24 ∧ 0 ≤ r.nw ∧ r.nw ≤ 62914560) := by
    rw [hL2]
    exact ⟨Nat.le_trans (risL_len m wd sp now 0) hlen2, fun r hr => by have := risL_bd m (by omega) wd sp now r hr; omega⟩
  have hB3 : Hid (∀ r ∈ RA, r.key.size ≤ 24) := fun r hr => by
    rw [hRA] at hr
    exact (risL_bd (l ++ m) (by rw [List.length_append]; omega) wd sp now r hr).1
  have HL1 := Lib.hid hL1
  have HL2 := Lib.hid hL2
  have HRA := Lib.hid hRA
  clear hL1 hL2 hRA
  go_wp2_with fail
  refine (of_any _ l (by omega) p wd _ pb sp now 0 HP.out).mono ?_
  rintro e' w5 ⟨v1, rfl, hr1, hb⟩
  rw [← HL1.out] at hr1
  replace HP := Lib.hid (HP.out.below hb)
  replace HQ := Lib.hid (HQ.out.below hb)
  replace HB := Lib.hid (HB.out.trans ((show Below _ _ _ from hb).mono HB.out.size))
  clear hb
  go_wp2_with fail
  refine (of_any _ m (by omega) q wd _ qb sp now 0 HQ.out).mono ?_
  rintro e' w6 ⟨v2, rfl, hr2, hb⟩
  rw [← HL2.out] at hr2
  replace HP := Lib.hid (HP.out.below hb)
  replace HQ := Lib.hid (HQ.out.below hb)
  replace hr1 := hr1.below hb
  replace HB := Lib.hid (HB.out.trans ((show Below _ _ _ from hb).mono HB.out.size))
  clear hb
  have HR1 := Lib.hid hr1
  have HR2 := Lib.hid hr2
  obtain ⟨o1, k1, rfl, hmx1⟩ := SliceR.shape hr1
  obtain ⟨o2, k2, rfl, hmx2⟩ := SliceR.shape hr2
  clear hr1 hr2 hmx1 hmx2
  have hmm := @run_makeMap Try.prog
  go_wp2_with fail
  clear hmm
  obtain ⟨w7, hw7⟩ : ∃ w7, w7 = (w6.alloc (.map #[] 0)).alloc (.cells #[.slice o1 L1.length k1, .slice o2 L2.length k2] 32) := ⟨_, rfl⟩
  have HSB : Hid (w7.heap[w6.heap.size + 1]? = some (.cells #[.slice o1 L1.length k1, .slice o2 L2.length k2] 32 (0, 0))) := by rw [hw7]; exact blk_new2 w6 _ _
  have HMo : Hid (MapT Try.prog 9 Value.string evR w7 w6.heap.size (oldM [])) := by rw [hw7]; exact (MapT_made _ _ _ _ _).alloc _
  have HB7 : Hid (Below w6.heap.size w6 w7) := by rw [hw7]; exact ((Below.refl _ w6).alloc (Nat.le_refl _) _).alloc (by simp) _
  have HS7 : Hid (w7.heap.size = w6.heap.size + 2) := by show _ = _; rw [hw7]; simp
  rw [← hw7]
  clear hw7
  obtain ⟨ALL, hAL⟩ : ∃ ALL, ALL = L1 ++ L2 := ⟨_, rfl⟩
  rw [← hAL] at HN HK
  have HAL := Lib.hid hAL
  have HBA : Hid (∀ r ∈ ALL, 0 ≤ r.nw ∧ r.nw ≤ 62914560) := fun r hr => by
    rw [hAL] at hr
    rcases List.mem_append.1 hr with hr | hr
    · exact (hB1.out.2 r hr).2
    · exact (hB2.out.2 r hr).2
  clear hAL
  go_loopg [56] 2 (fun g i wr => ∃ k : Nat, k + g = 2 ∧ i = .int .i64 k ∧ Hid (MapT Try.prog 9 Value.string evR wr w6.heap.size (oldM (ALL.take (if k = 0 then 0 else if k = 1 then L1.length else L1.length + L2.length)))) ∧ Hid (Fr [w6.heap.size] w7 wr))
  case atStart => exact ⟨0, by omega, rfl, HMo, Fr.refl _ _⟩
  case round =>
    clear HMo
    obtain ⟨k, hkg, rfl, HMo, HFr⟩ := hrel
    have HB6 : Hid (Below w6.heap.size w6 wr) := HB7.out.trans (HFr.out.below HB7.out.size (by simp))
    by_cases hkn : k < 2
    · obtain ⟨LX, o, c, bs, hcell, hrow, hbs, hsucc, hlx, hbx, hget⟩ : ∃ (LX : List Rz) (o : Option Addr) (c bs : Nat), (#[.slice o1 L1.length k1, .slice o2 L2.length k2] : Array Value)[k]? = some (.slice o LX.length c) ∧ CK.RowK encZ 3 w6 LX (.slice o LX.length c) ∧
          (if k = 0 then 0 else if k = 1 then L1.length else L1.length + L2.length) = bs ∧ (if k + 1 = 0 then 0 else if k + 1 = 1 then L1.length else L1.length + L2.length) = bs + LX.length ∧ bs + LX.length ≤ 80 ∧ (∀ r ∈ LX, r.key.size ≤ 24 ∧ 0 ≤ r.nw ∧ r.nw ≤ 62914560) ∧ ∀ j (h : j < LX.length), ALL[bs + j]? = some LX[j] := by
        have b1 := hB1.out.1
        have b2 := hB2.out.1
        rcases (by omega : k = 0 ∨ k = 1) with rfl | rfl
        · exact ⟨L1, o1, k1, 0, rfl, HR1.out, rfl, by simp, by omega, hB1.out.2, fun j h => by rw [HAL.out, Nat.zero_add, List.getElem?_append_left h, List.getElem?_eq_getElem h]⟩
        · exact ⟨L2, o2, k2, L1.length, rfl, HR2.out, rfl, rfl, by omega, hB2.out.2, fun j h => by rw [HAL.out, List.getElem?_append_right (by omega), Nat.add_sub_cancel_left, List.getElem?_eq_getElem h]⟩
      rw [hbs] at HMo
      have HRX := Lib.hid hrow
      have HSU := Lib.hid hsucc
      have HBX := Lib.hid hbx
      have HGT := Lib.hid hget
      have a0 : wr.cell? ⟨w6.heap.size + 1, k, none⟩ = some (.slice o LX.length c) := (HFr.out.cell (p := ⟨w6.heap.size + 1, k, none⟩) (by have := HS7.out; simp; omega) (by simp)).trans ((blk_cell HSB.out k).trans hcell)
      have HCL := Lib.hid hcell
      have d5 : decide ((k : Int) < 2) = true := by rw [decide_eq_true_iff]; omega
      clear hcell hrow hbs hsucc hbx hget
      obtain ⟨wz, hwz⟩ : ∃ wz, wz = wr := ⟨_, rfl⟩
      subst hwz
      go_wp2_with fail
      go_loopg [62] LX.length (fun g i wr => ∃ j : Nat, j + g = LX.length ∧ i = .int .i64 j ∧ Hid (MapT Try.prog 9 Value.string evR wr w6.heap.size (oldM (ALL.take (bs + j)))) ∧ Hid (Fr [w6.heap.size] w7 wr))
      case atStart => exact ⟨0, by omega, rfl, HMo, HFr⟩
      case round =>
        clear HMo HFr HB6 a0
        obtain ⟨j, hjg, rfl, HMo, HFr⟩ := hrel
        have HB6 : Hid (Below w6.heap.size w6 wr) := HB7.out.trans (HFr.out.below HB7.out.size (by simp))
        by_cases hjn : j < LX.length
        · obtain ⟨b, f, d, q1, hb1, e1⟩ := CK.RowK.cell (HRX.out.below HB6.out) hjn
          cases q1
          obtain ⟨g0, g1, g2⟩ := HBX.out LX[j] (List.getElem_mem _)
          obtain ⟨⟨rk, rn, ro⟩, hr⟩ : ∃ c : Rz, c = LX[j] := ⟨_, rfl⟩
          have HTK : Hid (ALL.take (bs + (j + 1)) = ALL.take (bs + j) ++ [⟨rk, rn, ro⟩]) := by
            show _ = _
            rw [← Nat.add_assoc, List.take_add_one, HGT.out j hjn, ← hr]; rfl
          rw [← hr] at e1 g0 g1 g2
          simp only at g0 g1 g2
          have a0 : wr.cell? ⟨b, f + j * 3, none⟩ = some (.string rk) := (e1 0 (by omega)).trans rfl
          have a1 : wr.cell? ⟨b, f + j * 3 + 1, none⟩ = some (.int .i64 rn) := (e1 1 (by omega)).trans rfl
          have a2 : wr.cell? ⟨b, f + j * 3 + 2, none⟩ = some (.int .i64 ro) := (e1 2 (by omega)).trans rfl
          obtain ⟨⟨y1, y2⟩, hy⟩ : ∃ y, y = (lookA (oldM (ALL.take (bs + j))) rk).getD (⟨#[]⟩, 0) := ⟨_, rfl⟩
          have hyb : 0 ≤ y2 ∧ y2 ≤ 5033164800 := by
            have e3 := oldM_look rk (ALL.take (bs + j))
            rw [← hy] at e3
            have e4 := newOf_bd (ALL.take (bs + j)) 62914560 (fun r hr => HBA.out r (List.mem_of_mem_take hr)) (by omega) rk
            have e5 : (ALL.take (bs + j)).length ≤ 80 := Nat.le_trans (List.length_take_le _ _) (by omega)
            simp only at e3
            omega
          have HLK : Hid (((lookA (oldM (ALL.take (bs + j))) rk).map evR).getD (.agg #[.string ⟨#[]⟩, .int .i64 0, .int .i64 0]) = .agg #[.string y1, .int .i64 y2, .int .i64 0]) := by
            show _ = evR (y1, y2)
            rw [hy]
            cases lookA (oldM (ALL.take (bs + j))) rk <;> rfl
          have HUP : Hid (putA (oldM (ALL.take (bs + j))) rk (rk, y2 + rn) = oldM (ALL.take (bs + (j + 1)))) := by
            show _ = _
            rw [HTK.out, oldM_snoc, ← hy]
          have HGD : Hid (GoodK Try.prog 9 (.string rk)) := strGood rk (by unfold maxLen; omega)
          have HMa : Hid (MapT Try.prog 9 Value.string evR (wr.alloc (.cells #[.string rk, .int .i64 rn, .int .i64 ro] 35)) w6.heap.size (oldM (ALL.take (bs + j)))) := HMo.out.alloc _
          have HMb : Hid (MapT Try.prog 9 Value.string evR ((wr.alloc (.cells #[.string rk, .int .i64 rn, .int .i64 ro] 35)).alloc (.cells #[.string y1, .int .i64 y2, .int .i64 0] 35)) w6.heap.size (oldM (ALL.take (bs + j)))) := HMa.out.alloc _
          have HFb : Hid (Fr [w6.heap.size] w7 ((wr.alloc (.cells #[.string rk, .int .i64 rn, .int .i64 ro] 35)).alloc (.cells #[.string y1, .int .i64 y2, .int .i64 0] 35))) := (HFr.out.alloc _).alloc _
          clear e1 hr hy HMo HFr
          go_wp2_with (first | (at_lookup; refine wpList_lookT _ rfl _ _ _ rfl _ _ strKeyed Try.underlying70 (.agg #[.string ⟨#[]⟩, .int .i64 0, .int .i64 0]) (riseGood _) Value.string evR str_inj w6.heap.size _ rfl HMa.out rk rfl HGD.out (.agg #[.string y1, .int .i64 y2, .int .i64 0]) HLK.out ?_) | (at_mapUpdate; refine wpList_updT _ rfl _ _ _ _ rfl _ _ strKeyed Try.underlying70 Value.string evR str_inj w6.heap.size _ rfl HMb.out rk rfl HGD.out (rk, y2 + rn) rfl ?_; intro w9 hS9 hfr9 hsz9; rw [HUP.out] at hS9; replace HMb := Lib.hid hS9; replace HFb := Lib.hid (HFb.out.trans hfr9 (fun x hx => .inl hx) (fun x hx => .inl hx)); clear hS9 hfr9 hsz9 a0 a1 a2))
          go_roundg (LX.length - (j + 1))
          case measure => omega
          case rel => exact ⟨j + 1, by omega, by go_num, HMb, HFb⟩
        · obtain rfl : j = LX.length := by omega
          go_wp2
          go_roundg (2 - (k + 1))
          case measure => omega
          case rel => exact ⟨k + 1, by omega, by go_num, by rw [HSU.out]; exact HMo, HFr⟩
    · obtain rfl : k = 2 := by omega
      have HPx : Hid (PanesAt wr p wd (cntOf l) pb (sumsOf wd l)) := HP.out.below HB6.out
      have HQx : Hid (PanesAt wr q wd (cntOf m) qb (sumsOf wd m)) := HQ.out.below HB6.out
      have hcl : cntOf l + cntOf m ≤ 1048576 := by
        have := List.length_filter_le rightB l
        have := List.length_filter_le rightB m
        unfold cntOf; omega
      have htake : ALL.take (if 2 = 0 then 0 else if 2 = 1 then L1.length else L1.length + L2.length) = ALL := by
        rw [HAL.out]; exact List.take_of_length_le (by rw [List.length_append]; simp)
      rw [htake] at HMo
      replace HB := Lib.hid (HB.out.trans (HB6.out.mono HB.out.size))
      have hpl6 : Hid (p < w6.heap.size ∧ pb < w6.heap.size) := ⟨blk_lt HP.out.blk, HP.out.map.lt⟩
      clear htake hkg hkn HFr HB6 HP HQ
      go_wp2_with fail
      refine (merge_calls wr p wd _ pb _ q _ qb _ HPx.out HQx.out hcl HPQ.out.1 HPQ.out.2.1 HPQ.out.2.2).mono ?_
      rintro e' w8 ⟨lx, hpx, rfl, hfm, hpm⟩
      replace HMo := Lib.hid (HMo.out.fr hfm (by have := hpl6.out; simp; omega))
      replace HB := Lib.hid (HB.out.trans (hfm.below HB.out.size (by have := HGE.out; simp; omega)))
      have HPX := Lib.hid hpx
      have HPM := Lib.hid hpm
      clear hpx hfm hpm HPx HQx
      go_wp2_with fail
      refine (of_merged _ l m (by omega) p wd _ pb lx sp now 0 HPX.out HPM.out).mono ?_
      rintro e' w9 ⟨v3, rfl, hr3, hb⟩
      rw [← HRA.out] at hr3
      replace HMo := Lib.hid (HMo.out.below hb HMo.out.lt)
      replace HB := Lib.hid (HB.out.trans ((show Below _ _ _ from hb).mono HB.out.size))
      clear hb
      have HR3 := Lib.hid hr3
      obtain ⟨o3, k3, rfl, hmx⟩ := SliceR.shape hr3
      have hLl : RA.length ≤ 9223372036854775807 := by unfold maxLen at *; omega
      clear hr3 hmx HPM HPX
      go_wp2_with fail
      go_loopg [93] RA.length (fun g i wr => ∃ k : Nat, k + g = RA.length ∧ i = .int .i64 k ∧ Hid (Below w9.heap.size w9 wr))
      case atStart => exact ⟨0, by omega, rfl, Below.refl _ _⟩
      case round =>
        obtain ⟨k, hkg, rfl, HB2⟩ := hrel
        have HMx : Hid (MapT Try.prog 9 Value.string evR wr w6.heap.size (oldM ALL)) := HMo.out.below HB2.out HMo.out.lt
        by_cases hkn : k < RA.length
        · obtain ⟨b, f, d, q1, hb1, e1⟩ := CK.RowK.cell (HR3.out.below HB2.out) hkn
          cases q1
          have hks := hB3.out RA[k] (List.getElem_mem _)
          have hnw := HN.out RA[k] (List.getElem_mem _)
          obtain ⟨⟨rk, rn, ro⟩, hr⟩ : ∃ c : Rz, c = RA[k] := ⟨_, rfl⟩
          rw [← hr] at e1 hks hnw
          simp only at hks hnw
          have a0 : wr.cell? ⟨b, f + k * 3, none⟩ = some (.string rk) := (e1 0 (by omega)).trans rfl
          have a1 : wr.cell? ⟨b, f + k * 3 + 1, none⟩ = some (.int .i64 rn) := (e1 1 (by omega)).trans rfl
          have a2 : wr.cell? ⟨b, f + k * 3 + 2, none⟩ = some (.int .i64 ro) := (e1 2 (by omega)).trans rfl
          obtain ⟨⟨y1, y2⟩, hy⟩ : ∃ y, y = (lookA (oldM ALL) rk).getD (⟨#[]⟩, 0) := ⟨_, rfl⟩
          have hyn : y2 = rn := by
            have e3 := oldM_look rk ALL
            rw [← hy] at e3
            exact e3.trans hnw
          subst hyn
          have HLK : Hid (((lookA (oldM ALL) rk).map evR).getD (.agg #[.string ⟨#[]⟩, .int .i64 0, .int .i64 0]) = .agg #[.string y1, .int .i64 y2, .int .i64 0]) := by
            show _ = evR (y1, y2)
            rw [hy]
            cases lookA (oldM ALL) rk <;> rfl
          have HGD : Hid (GoodK Try.prog 9 (.string rk)) := strGood rk (by unfold maxLen; omega)
          have HMa : Hid (MapT Try.prog 9 Value.string evR (wr.alloc (.cells #[.string rk, .int .i64 y2, .int .i64 ro] 35)) w6.heap.size (oldM ALL)) := HMx.out.alloc _
          have hfd : ∀ w : World, (Instr.field 35 (.agg #[.string y1, .int .i64 y2, .int .i64 0]) 1).run Try.prog w = .ok (.int .i64 y2) w := fun _ => by kernel_rfl
          clear e1 hr hy hnw
          go_wp2_with (at_lookup; refine wpList_lookT _ rfl _ _ _ rfl _ _ strKeyed Try.underlying70 (.agg #[.string ⟨#[]⟩, .int .i64 0, .int .i64 0]) (riseGood _) Value.string evR str_inj w6.heap.size _ rfl HMa.out rk rfl HGD.out (.agg #[.string y1, .int .i64 y2, .int .i64 0]) HLK.out ?_)
          go_roundg (RA.length - (k + 1))
          case measure => omega
          case rel => exact ⟨k + 1, by omega, by go_num, HB2.out.alloc HB2.out.size _⟩
        · obtain rfl : k = RA.length := by omega
          replace HB := Lib.hid (HB.out.trans (HB2.out.mono HB.out.size))
          have d4 : (((RA.length : Nat) : Int) == (((oldM ALL).length : Nat) : Int)) = true := by rw [HK.out]; simp
          clear HB2
          have hln := HMx.out.len Try.underlying70 3
          go_wp2_with fail
          refine (awake19_calls _).mono ?_
          rintro e' w10 ⟨rfl, hb⟩
          replace HB := Lib.hid (HB.out.trans ((show Below _ _ _ from hb).mono HB.out.size))
          clear hb
          go_wp2
          go_ret
          exact ⟨rfl, HB.out⟩
end Go.Proofs.Ytmddlbgdmdepdaa
