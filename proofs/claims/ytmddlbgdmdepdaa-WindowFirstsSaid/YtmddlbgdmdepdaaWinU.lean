/- WindowFirsts: the law's function returns true, by a walk. No condition. -/
import Derived.Test.YtmddlbgdmdepdaaWinT
import Derived.Test.YtmddlbgdmdepdaaKitD
import Derived.IntWalk
set_option linter.unusedVariables false
set_option linter.unusedSimpArgs false
set_option maxRecDepth 100000
namespace Go.Proofs.Ytmddlbgdmdepdaa
open Go.Maps Go.MapKept Go.RowKit Go.ChangeMaps Go.Shelf CK Go.Proofs.YtmddlbgdmdepdaaW.PrintLast

/-- all keys' counts -/
def fullOf (l : List Add) (sz hp wd e : Int) : List Cn := refTop [] (fun key => if mayB sz hp wd && endB hp e then atSum l sz e key else 0) l []
theorem topOf_full (l : List Add) (sz hp wd e n : Int) : topOf l sz hp wd e n = (fullOf l sz hp wd e).take (min (max n 0) (fullOf l sz hp wd e).length).toNat := rfl
theorem fullOf_len (l : List Add) (sz hp wd e : Int) : (fullOf l sz hp wd e).length ≤ l.length := by
  have := refTop_len (fun key => if mayB sz hp wd && endB hp e then atSum l sz e key else 0) l [] []
  simp only [List.length_nil, Nat.zero_add] at this
  exact this
/-- a key's sum in the window -/
def gOf (l : List Add) (sz hp wd e : Int) (key : ByteArray) : Int := if mayB sz hp wd && endB hp e then atSum l sz e key else 0
theorem gOf_bd (l : List Add) (sz hp wd e : Int) (key : ByteArray) : 0 ≤ gOf l sz hp wd e key ∧ gOf l sz hp wd e key ≤ l.length * 1048576 := by
  unfold gOf
  have := atSum_bd l sz e key
  split
  · exact this
  · omega
theorem fullOf_inv (l : List Add) (sz hp wd e : Int) : (∀ c, c ∈ fullOf l sz hp wd e ↔ c.2 = gOf l sz hp wd e c.1 ∧ 0 < gOf l sz hp wd e c.1 ∧ ∃ a ∈ l, a.key = c.1) ∧ (fullOf l sz hp wd e).Nodup := by
  have := refTop_inv (gOf l sz hp wd e) l [] [] ⟨by simp, by simp⟩
  rw [List.nil_append] at this
  exact this
theorem fullOf_sorted (l : List Add) (sz hp wd e : Int) : (fullOf l sz hp wd e).Pairwise fun x y => ltOf cfC y x = false := refTop_sorted [] _ l [] List.Pairwise.nil
/-- keys, each once -/
def keysL : List Add → List ByteArray := fun l => l.foldl (fun ks a => if elemB ks a.key = true then ks else ks ++ [a.key]) []
theorem keysL_snoc (l : List Add) (a : Add) : keysL (l ++ [a]) = if elemB (keysL l) a.key = true then keysL l else keysL l ++ [a.key] := by
  unfold keysL; rw [List.foldl_append]; rfl
theorem keysL_mem (l : List Add) (k : ByteArray) : k ∈ keysL l ↔ ∃ a ∈ l, a.key = k := by
  refine snoc_ind (p := fun l => k ∈ keysL l ↔ ∃ a ∈ l, a.key = k) (by simp [keysL]) (fun l a ih => ?_) l
  rw [keysL_snoc]
  split
  · rename_i h
    rw [elemB_iff] at h
    constructor
    · intro hk; obtain ⟨x, hx, e⟩ := ih.1 hk; exact ⟨x, List.mem_append_left _ hx, e⟩
    · rintro ⟨x, hx, rfl⟩
      rcases List.mem_append.1 hx with hx | hx
      · exact ih.2 ⟨x, hx, rfl⟩
      · simp at hx; subst hx; exact h
  · rw [List.mem_append, ih]
    constructor
    · rintro (⟨x, hx, e⟩ | hk)
      · exact ⟨x, List.mem_append_left _ hx, e⟩
      · simp at hk; exact ⟨a, by simp, hk.symm⟩
    · rintro ⟨x, hx, rfl⟩
      rcases List.mem_append.1 hx with hx | hx
      · exact .inl ⟨x, hx, rfl⟩
      · simp at hx; subst hx; right; simp
theorem keysL_nodup (l : List Add) : (keysL l).Nodup := by
  refine snoc_ind (p := fun l => (keysL l).Nodup) (by simp [keysL]) (fun l a ih => ?_) l
  rw [keysL_snoc]
  split
  · exact ih
  · rename_i h
    rw [List.nodup_append]
    refine ⟨ih, by simp, fun x hx y hy e => ?_⟩
    simp at hy
    subst hy e
    exact h ((elemB_iff _ _).2 hx)
theorem keysL_len (l : List Add) : (keysL l).length ≤ l.length := by
  refine snoc_ind (p := fun l => (keysL l).length ≤ l.length) (by simp [keysL]) (fun l a ih => ?_) l
  rw [keysL_snoc, List.length_append, List.length_singleton]
  split
  · omega
  · rw [List.length_append, List.length_singleton]; omega
theorem sum_pos_filter (ks : List ByteArray) (g : ByteArray → Int) (hg : ∀ k, 0 ≤ g k) : ((ks.filter fun k => decide (0 < g k)).map g).sum = (ks.map g).sum := by
  induction ks with
  | nil => rfl
  | cons k r ih =>
    rw [List.filter_cons, List.map_cons, List.sum_cons]
    have := hg k
    by_cases h : 0 < g k
    · simp [h, ih]
    · simp only [h, decide_false, Bool.false_eq_true, if_false, ih]; omega
theorem sums_one (l : List Add) (sz hp wd e : Int) : ((fullOf l sz hp wd e).map (·.2)).sum = ((keysL l).map (gOf l sz hp wd e)).sum := by
  obtain ⟨h1, h2⟩ := fullOf_inv l sz hp wd e
  have hp' : (fullOf l sz hp wd e).Perm (((keysL l).filter fun k => decide (0 < gOf l sz hp wd e k)).map fun k => (k, gOf l sz hp wd e k)) := by
    refine (List.perm_ext_iff_of_nodup h2 (List.Pairwise.map _ (fun a b hab h' => hab (congrArg Prod.fst h')) ((keysL_nodup l).filter _))).2 fun c => ?_
    rw [h1 c, List.mem_map]
    constructor
    · rintro ⟨e1, e2, e3⟩
      exact ⟨c.1, List.mem_filter.2 ⟨(keysL_mem l c.1).2 e3, by simpa using e2⟩, Prod.ext rfl e1.symm⟩
    · rintro ⟨k, hk, rfl⟩
      obtain ⟨k1, k2⟩ := List.mem_filter.1 hk
      exact ⟨rfl, by simpa using k2, (keysL_mem l k).1 k1⟩
  rw [sum_perm (hp'.map _), List.map_map, ← sum_pos_filter (keysL l) (gOf l sz hp wd e) fun k => (gOf_bd l sz hp wd e k).1]
  rfl
theorem sum_le {α : Type} (f : α → Int) (b : Int) (l : List α) (h : ∀ x ∈ l, 0 ≤ f x ∧ f x ≤ b) : 0 ≤ (l.map f).sum ∧ (l.map f).sum ≤ l.length * b := by
  induction l with
  | nil => simp
  | cons x r ih =>
    have h1 := h x (by simp)
    have h2 := ih fun y hy => h y (List.mem_cons_of_mem _ hy)
    rw [List.map_cons, List.sum_cons, List.length_cons]
    push_cast
    rw [Int.add_mul]
    omega
theorem next_lt {l : List Cn} (h : l.Pairwise fun x y => ltOf cfC y x = false) (hn : l.Nodup) {i : Nat} (hi : i + 1 < l.length) : ltOf cfC (l[i]'(by omega)) l[i + 1] = true := by
  have h1 := List.pairwise_iff_getElem.1 h i (i + 1) (by omega) hi (by omega)
  cases h2 : ltOf cfC (l[i]'(by omega)) l[i + 1]
  · exfalso
    have := (List.getElem_inj hn).1 (ltC_total h2 h1)
    omega
  · rfl
theorem look_seen (l : List ByteArray) (k : ByteArray) : ((lookA (l.map fun x => (x, true)) k).map Value.bool).getD (.bool false) = .bool (elemB l k) := by
  cases h : elemB l k
  · rw [lookA_none]
    · rfl
    · intro p hp e
      obtain ⟨x, hx, rfl⟩ := List.mem_map.1 hp
      have : elemB l k = true := (elemB_iff _ _).2 (by rw [← e]; exact hx)
      rw [h] at this; cases this
  · have hk := (elemB_iff l k).1 h
    have : lookA (l.map fun x => (x, true)) k = some true := by
      unfold lookA
      cases hf : (l.map fun x => (x, true)).find? (fun p => decide (p.1 = k)) with
      | none =>
        rw [List.find?_eq_none] at hf
        have := hf (k, true) (List.mem_map.2 ⟨k, hk, rfl⟩)
        simp at this
      | some p =>
        have := List.mem_of_find?_eq_some hf
        obtain ⟨x, _, rfl⟩ := List.mem_map.1 this
        rfl
    rw [this]; rfl
set_option maxHeartbeats 4000000 in
theorem law_firsts (n : Int) (l : List Add) (v : Value) (s : Spec) (e m : Int) (w : World) (h0 : (Lit.int .i64 n).wf = true) (hl : AddsAt w l v) (hs : s.ok) (he : (Lit.int .i64 e).wf = true) (hm : (Lit.int .i64 m).wf = true) :
    Calls Try.prog 5 #[.int .i64 n, v, .agg s.cs.toArray, .int .i64 e, .int .i64 m] w (BoolPost w true) := by
  obtain ⟨sz, hp⟩ := s
  show Calls Try.prog _ #[_, _, .agg #[.int .i64 sz, .int .i64 hp], _, _] _ _
  clear h0 hs he hm
  have BK : Hid ((w.alloc (.cells #[.int .i64 sz, .int .i64 hp] 44)).heap[w.heap.size]? = some (.cells #[.int .i64 sz, .int .i64 hp] 44 (0, 0))) := blk_new w _
  have HB : Hid (Below w.heap.size w (w.alloc (.cells #[.int .i64 sz, .int .i64 hp] 44))) := (Below.refl _ w).alloc (Nat.le_refl _) _
  have HL := Lib.hid (hl.below ((Below.refl _ w).alloc (Nat.le_refl _) (.cells #[.int .i64 sz, .int .i64 hp] 44)))
  clear hl
  cases hlong : longB l
  case true =>
    have HLo := Lib.hid hlong
    clear hlong
    go_enter Try.func5, Try.ntmps5
    go_wp2_with fail
    refine (long_calls _ l _ HL.out).mono ?_
    rintro e' w1 ⟨rfl, hb⟩
    rw [HLo.out]
    replace HB := Lib.hid (HB.out.trans ((show Below _ _ _ from hb).mono HB.out.size))
    replace BK := Lib.hid (blk_below BK.out hb (blk_lt BK.out))
    clear hb
    go_wp2_with fail
    refine (awake_calls _).mono ?_
    rintro e' w2 ⟨rfl, hb⟩
    replace HB := Lib.hid (HB.out.trans ((show Below _ _ _ from hb).mono HB.out.size))
    replace BK := Lib.hid (blk_below BK.out hb (blk_lt BK.out))
    clear hb
    go_wp2
    go_ret
    exact ⟨rfl, HB.out⟩
  have hlen := longB_false hlong
  have HLo := Lib.hid hlong
  clear hlong
  go_enter Try.func5, Try.ntmps5
  go_wp2_with fail
  refine (long_calls _ l _ HL.out).mono ?_
  rintro e' w1 ⟨rfl, hb⟩
  rw [HLo.out]
  replace HL := Lib.hid (HL.out.below hb)
  replace HB := Lib.hid (HB.out.trans ((show Below _ _ _ from hb).mono HB.out.size))
  replace BK := Lib.hid (blk_below BK.out hb (blk_lt BK.out))
  clear hb
  go_wp2_with fail
  refine (fill_calls _ n l _ HL.out hlen).mono ?_
  rintro e' w2 ⟨p, pb, rfl, hp1, _, _, hb⟩
  replace HL := Lib.hid (HL.out.below hb)
  have HP := Lib.hid hp1
  clear hp1
  replace HB := Lib.hid (HB.out.trans ((show Below _ _ _ from hb).mono HB.out.size))
  replace BK := Lib.hid (blk_below BK.out hb (blk_lt BK.out))
  clear hb
  obtain ⟨wd, hwd⟩ : ∃ wd, wd = min (max n 1) 1099511627776 := ⟨_, rfl⟩
  rw [← hwd] at HP
  clear hwd
  obtain ⟨F, hF⟩ : ∃ F, F = fullOf l sz hp wd e := ⟨_, rfl⟩
  obtain ⟨g, hg⟩ : ∃ g, g = gOf l sz hp wd e := ⟨_, rfl⟩
  have hFl : F.length ≤ 60 := by rw [hF]; exact Nat.le_trans (fullOf_len _ _ _ _ _) hlen
  have HT : Hid (∀ n, topOf l sz hp wd e n = F.take (min (max n 0) F.length).toNat) := fun n => by rw [hF]; exact topOf_full _ _ _ _ _ _
  have HT1 : Hid (topOf l sz hp wd e 1000 = F) := by
    show _ = _
    rw [HT.out, show (min (max (1000 : Int) 0) (F.length : Int)).toNat = F.length by omega, List.take_length]
  have HI := Lib.hid (fullOf_inv l sz hp wd e)
  have HS := Lib.hid (fullOf_sorted l sz hp wd e)
  have HSU := Lib.hid (sums_one l sz hp wd e)
  have HGB : Hid (∀ k, 0 ≤ g k ∧ g k ≤ 62914560) := fun k => by have := gOf_bd l sz hp wd e k; rw [hg]; omega
  have HAt : Hid (∀ (w : World) (k : ByteArray), PanesAt w p wd (cntOf l) pb (sumsOf wd l) → Calls Try.prog 31 #[.pointer (some ⟨p, 0, none⟩), .agg #[.int .i64 sz, .int .i64 hp], .string k, .int .i64 e] w (IntPost w (g k))) := fun w k h => by
    refine (at_calls w sz hp e k p wd _ pb _ h).mono fun e' w' h' => ?_
    rw [at_plain l sz hp wd e k] at h'
    rw [hg]; exact h'
  rw [← hF, ← hg] at HI HSU
  rw [← hF] at HS
  clear hF hg
  have c0 := (blk_cell BK.out 0).trans rfl
  have c1 := (blk_cell BK.out 1).trans rfl
  go_wp2_with fail
  refine (wtop_calls _ l sz hp wd _ e 1000 _ _ HP.out hlen).mono ?_
  rintro e' w3 ⟨v1, rfl, hr1, hb⟩
  rw [HT1.out] at hr1
  replace HL := Lib.hid (HL.out.below hb)
  replace HP := Lib.hid (HP.out.below hb)
  have HR1 := Lib.hid hr1
  clear c0 c1 hr1
  replace HB := Lib.hid (HB.out.trans ((show Below _ _ _ from hb).mono HB.out.size))
  replace BK := Lib.hid (blk_below BK.out hb (blk_lt BK.out))
  clear hb
  have c0 := (blk_cell BK.out 0).trans rfl
  have c1 := (blk_cell BK.out 1).trans rfl
  go_wp2_with fail
  refine (wtop_calls _ l sz hp wd _ e m _ _ HP.out hlen).mono ?_
  rintro e' w4 ⟨v2, rfl, hr2, hb⟩
  rw [HT.out m] at hr2
  replace HL := Lib.hid (HL.out.below hb)
  replace HP := Lib.hid (HP.out.below hb)
  replace HR1 := Lib.hid (HR1.out.below hb)
  have HR2 := Lib.hid hr2
  clear c0 c1 hr2
  replace HB := Lib.hid (HB.out.trans ((show Below _ _ _ from hb).mono HB.out.size))
  replace BK := Lib.hid (blk_below BK.out hb (blk_lt BK.out))
  clear hb
  go_wp2_with fail
  refine (first_calls _ _ _ m HR1.out).mono ?_
  rintro e' w5 ⟨v3, rfl, hr3, hb⟩
  replace HL := Lib.hid (HL.out.below hb)
  replace HP := Lib.hid (HP.out.below hb)
  replace HR1 := Lib.hid (HR1.out.below hb)
  replace HR2 := Lib.hid (HR2.out.below hb)
  have HR3 := Lib.hid hr3
  clear hr3
  replace HB := Lib.hid (HB.out.trans ((show Below _ _ _ from hb).mono HB.out.size))
  replace BK := Lib.hid (blk_below BK.out hb (blk_lt BK.out))
  clear hb
  go_wp2_with fail
  refine (sameC_calls _ _ _ _ _ HR2.out HR3.out rfl).mono ?_
  rintro e' w6 ⟨rfl, hb⟩
  replace HL := Lib.hid (HL.out.below hb)
  replace HP := Lib.hid (HP.out.below hb)
  replace HR1 := Lib.hid (HR1.out.below hb)
  clear HR2 HR3
  replace HB := Lib.hid (HB.out.trans ((show Below _ _ _ from hb).mono HB.out.size))
  replace BK := Lib.hid (blk_below BK.out hb (blk_lt BK.out))
  clear hb
  obtain ⟨so, cap, rfl, hmx⟩ := SliceR.shape HR1.out
  clear hmx HLo
  go_wp2
  go_loopg [13, 44] F.length (fun m s i wr => ∃ k : Nat, k + m = F.length ∧ i = .int .i64 k ∧ s = .int .i64 ((F.take k).map (·.2)).sum ∧ Hid (Below w6.heap.size w6 wr))
  case atStart => exact ⟨0, by omega, rfl, by simp, Below.refl _ _⟩
  case round =>
    obtain ⟨k, hkm, rfl, rfl, HB2⟩ := hrel
    have hsb := sum_le (fun c : Cn => c.2) 62914560 (F.take k) fun c hc => by
      have h1 := (HI.out.1 c).1 (List.mem_of_mem_take hc)
      have h2 := HGB.out c.1
      rw [h1.1]; exact h2
    have htl : ((F.take k).length : Int) ≤ 60 := by have := List.length_take_le k F; omega
    obtain ⟨S, hS⟩ : ∃ S, S = ((F.take k).map (·.2)).sum := ⟨_, rfl⟩
    rw [← hS] at hsb
    rw [← hS]
    have HSd := Lib.hid hS
    clear hS
    by_cases hkn : k < F.length
    · obtain ⟨b, f, d, q1, hb1, e1⟩ := CK.RowK.cell HR1.out hkn
      cases q1
      have hcm := (HI.out.1 F[k]).1 (List.getElem_mem _)
      obtain ⟨⟨ck, cn⟩, hc⟩ : ∃ c : Cn, c = F[k] := ⟨_, rfl⟩
      rw [← hc] at e1 hcm
      simp only at hcm
      have hgk := HGB.out ck
      rw [← hcm.1] at hgk
      have hcn0 : 1 ≤ cn := by have := hcm.2.1; rw [← hcm.1] at this; omega
      have HTK : Hid (((F.take (k + 1)).map (·.2)).sum = S + cn) := by
        show _ = _
        rw [List.take_succ_eq_append_getElem hkn, ← hc, List.map_append, List.sum_append, HSd.out]; simp
      have HG := Lib.hid hcm.1
      have a0 : wr.cell? ⟨b, f + k * 2, none⟩ = some (.string ck) := (HB2.out.cell (p := ⟨b, f + k * 2, none⟩) hb1).trans ((e1 0 (by omega)).trans rfl)
      have a1 : wr.cell? ⟨b, f + k * 2 + 1, none⟩ = some (.int .i64 cn) := (HB2.out.cell (p := ⟨b, f + k * 2 + 1, none⟩) hb1).trans ((e1 1 (by omega)).trans rfl)
      have hbl : b < wr.heap.size := Nat.lt_of_lt_of_le hb1 HB2.out.size
      have HPw : Hid (PanesAt wr p wd (cntOf l) pb (sumsOf wd l)) := HP.out.below HB2.out
      have BKw : Hid (wr.heap[w.heap.size]? = some (.cells #[.int .i64 sz, .int .i64 hp] 44 (0, 0))) := blk_below BK.out HB2.out (blk_lt BK.out)
      have d1 : decide (cn < 1) = false := by rw [decide_eq_false_iff_not]; omega
      have d2 : (cn != cn) = false := by simp
      clear e1 hcm
      rcases Nat.eq_zero_or_pos k with hk0 | hk0
      · have d3 : decide (0 < (k : Int)) = false := by rw [decide_eq_false_iff_not]; omega
        have d3' : decide (0 < k) = false := by rw [decide_eq_false_iff_not]; omega
        clear hc hk0
        go_wp2_with fail
        refine name_w (fun w' => (w'.drew.heap[wr.heap.size]? = some (.cells #[.string ck, .int .i64 cn] 55 (0, 0)) ∧ w'.drew.heap[w.heap.size]? = some (.cells #[.int .i64 sz, .int .i64 hp] 44 (0, 0))) ∧ Below w6.heap.size w6 w'.drew ∧ PanesAt w'.drew p wd (cntOf l) pb (sumsOf wd l)) ⟨⟨blk_new wr _, blk_old BKw.out _⟩, (HB2.out.alloc HB2.out.size _).drew, HPw.out.below ((Below.refl _ wr).alloc (Nat.le_refl _) _).drew⟩ ?_
        clear HB2 a0 a1 BKw HPw
        rintro w0 ⟨⟨hB1, hB2⟩, HB2, HPw⟩
        replace hB1 := Lib.hid hB1
        replace hB2 := Lib.hid hB2
        replace HB2 := Lib.hid HB2
        replace HPw := Lib.hid HPw
        refine start_ (n := 28) (S := fun w' => w'.cell? ⟨wr.heap.size, 0, none⟩ = some (.string ck) ∧ w'.cell? ⟨wr.heap.size, 1, none⟩ = some (.int .i64 cn) ∧ w'.cell? ⟨w.heap.size, 0, none⟩ = some (.int .i64 sz) ∧ w'.cell? ⟨w.heap.size, 1, none⟩ = some (.int .i64 hp)) (ds := []) #[false, false, false, false, false, false, false, false, false, false, false, false, false, false, false, false, false, false, false, false, false, false, false, false, false, false, false, false] (by kernel_rfl) rfl rfl ⟨(blk_cell hB1.out 0), (blk_cell hB1.out 1), (blk_cell hB2.out 0), (blk_cell hB2.out 1)⟩ (fun hHeld => ?_)
        refine pure_ (i := 0) (N := some 49) (v := ?_) (a' := ?_) #[true, false, false, false, false, false, false, false, false, false, false, false, false, false, false, false, false, false, false, false, false, false, false, false, false, false, false, false] rfl rfl (by kernel_rfl) (fun _ _ _ h => h) (Or.inl ⟨by rfl, ?_⟩) ?_ ?_
        rotate_left
        · intro w'
          go_simp
          with_reducible rfl
        rotate_left
        · simp only [Act.put, List.setIfInBounds_toArray, List.set_cons_zero, List.set_cons_succ, i64_w, i32_w]
          rfl
        refine pure_ (i := 1) (N := some 50) (v := ?_) (a' := ?_) #[true, true, false, false, false, false, false, false, false, false, false, false, false, false, false, false, false, false, false, false, false, false, false, false, false, false, false, false] rfl rfl (by kernel_rfl) (fun _ _ _ h => h) (Or.inl ⟨by rfl, ?_⟩) ?_ ?_
        rotate_left
        · intro w'
          go_simp
          with_reducible rfl
        rotate_left
        · simp only [Act.put, List.setIfInBounds_toArray, List.set_cons_zero, List.set_cons_succ, i64_w, i32_w]
          rfl
        refine pure_ (i := 2) (N := some 51) (v := ?_) (a' := ?_) #[true, true, true, false, false, false, false, false, false, false, false, false, false, false, false, false, false, false, false, false, false, false, false, false, false, false, false, false] rfl rfl (by kernel_rfl) (fun _ _ _ h => h) (Or.inl ⟨by rfl, ?_⟩) ?_ ?_
        rotate_left
        · intro w'
          go_simp
          with_reducible rfl
        rotate_left
        · simp only [Act.put, List.setIfInBounds_toArray, List.set_cons_zero, List.set_cons_succ, i64_w, i32_w]
          rfl
        refine pure_ (i := 3) (N := some 52) (v := undef) (a' := ?_) #[true, true, true, true, false, false, false, false, false, false, false, false, false, false, false, false, false, false, false, false, false, false, false, false, false, false, false, false] rfl rfl (by kernel_rfl) (fun _ _ _ h => h) (Or.inr ⟨by rfl, rfl⟩) ?_ ?_
        rotate_left
        · simp only [Act.put, List.setIfInBounds_toArray, List.set_cons_zero, List.set_cons_succ, i64_w, i32_w]
          rfl
        refine pure_ (i := 4) (N := some 53) (v := undef) (a' := ?_) #[true, true, true, true, true, false, false, false, false, false, false, false, false, false, false, false, false, false, false, false, false, false, false, false, false, false, false, false] rfl rfl (by kernel_rfl) (fun _ _ _ h => h) (Or.inr ⟨by rfl, rfl⟩) ?_ ?_
        rotate_left
        · simp only [Act.put, List.setIfInBounds_toArray, List.set_cons_zero, List.set_cons_succ, i64_w, i32_w]
          rfl
        refine pure_ (i := 5) (N := some 54) (v := undef) (a' := ?_) #[true, true, true, true, true, true, false, false, false, false, false, false, false, false, false, false, false, false, false, false, false, false, false, false, false, false, false, false] rfl rfl (by kernel_rfl) (fun _ _ _ h => h) (Or.inr ⟨by rfl, rfl⟩) ?_ ?_
        rotate_left
        · simp only [Act.put, List.setIfInBounds_toArray, List.set_cons_zero, List.set_cons_succ, i64_w, i32_w]
          rfl
        refine pure_ (i := 6) (N := some 55) (v := undef) (a' := ?_) #[true, true, true, true, true, true, true, false, false, false, false, false, false, false, false, false, false, false, false, false, false, false, false, false, false, false, false, false] rfl rfl (by kernel_rfl) (fun _ _ _ h => h) (Or.inr ⟨by rfl, rfl⟩) ?_ ?_
        rotate_left
        · simp only [Act.put, List.setIfInBounds_toArray, List.set_cons_zero, List.set_cons_succ, i64_w, i32_w]
          rfl
        refine pure_ (i := 7) (N := some 56) (v := undef) (a' := ?_) #[true, true, true, true, true, true, true, true, false, false, false, false, false, false, false, false, false, false, false, false, false, false, false, false, false, false, false, false] rfl rfl (by kernel_rfl) (fun _ _ _ h => h) (Or.inr ⟨by rfl, rfl⟩) ?_ ?_
        rotate_left
        · simp only [Act.put, List.setIfInBounds_toArray, List.set_cons_zero, List.set_cons_succ, i64_w, i32_w]
          rfl
        refine pure_ (i := 8) (N := some 57) (v := undef) (a' := ?_) #[true, true, true, true, true, true, true, true, true, false, false, false, false, false, false, false, false, false, false, false, false, false, false, false, false, false, false, false] rfl rfl (by kernel_rfl) (fun _ _ _ h => h) (Or.inr ⟨by rfl, rfl⟩) ?_ ?_
        rotate_left
        · simp only [Act.put, List.setIfInBounds_toArray, List.set_cons_zero, List.set_cons_succ, i64_w, i32_w]
          rfl
        refine pure_ (i := 9) (N := some 58) (v := undef) (a' := ?_) #[true, true, true, true, true, true, true, true, true, true, false, false, false, false, false, false, false, false, false, false, false, false, false, false, false, false, false, false] rfl rfl (by kernel_rfl) (fun _ _ _ h => h) (Or.inr ⟨by rfl, rfl⟩) ?_ ?_
        rotate_left
        · simp only [Act.put, List.setIfInBounds_toArray, List.set_cons_zero, List.set_cons_succ, i64_w, i32_w]
          rfl
        refine pure_ (i := 10) (N := some 59) (v := undef) (a' := ?_) #[true, true, true, true, true, true, true, true, true, true, true, false, false, false, false, false, false, false, false, false, false, false, false, false, false, false, false, false] rfl rfl (by kernel_rfl) (fun _ _ _ h => h) (Or.inr ⟨by rfl, rfl⟩) ?_ ?_
        rotate_left
        · simp only [Act.put, List.setIfInBounds_toArray, List.set_cons_zero, List.set_cons_succ, i64_w, i32_w]
          rfl
        refine pure_ (i := 11) (N := some 60) (v := ?_) (a' := ?_) #[true, true, true, true, true, true, true, true, true, true, true, true, false, false, false, false, false, false, false, false, false, false, false, false, false, false, false, false] rfl rfl (by kernel_rfl) (fun _ _ _ h => h) (Or.inl ⟨by rfl, ?_⟩) ?_ ?_
        rotate_left
        · intro w'
          go_simp
          with_reducible rfl
        rotate_left
        · simp only [Act.put, List.setIfInBounds_toArray, List.set_cons_zero, List.set_cons_succ, i64_w, i32_w]
          rfl
        refine pure_ (i := 12) (N := some 61) (v := ?_) (a' := ?_) #[true, true, true, true, true, true, true, true, true, true, true, true, true, false, false, false, false, false, false, false, false, false, false, false, false, false, false, false] rfl rfl (by kernel_rfl) (fun _ _ _ h => h) (Or.inl ⟨by rfl, ?_⟩) ?_ ?_
        rotate_left
        · intro w'
          go_simp
          with_reducible rfl
        rotate_left
        · simp only [Act.put, List.setIfInBounds_toArray, List.set_cons_zero, List.set_cons_succ, i64_w, i32_w]
          rfl
        refine pure_ (i := 13) (N := some 62) (v := ?_) (a' := ?_) #[true, true, true, true, true, true, true, true, true, true, true, true, true, true, false, false, false, false, false, false, false, false, false, false, false, false, false, false] rfl rfl (by kernel_rfl) (fun _ _ _ h => h) (Or.inl ⟨by rfl, ?_⟩) ?_ ?_
        rotate_left
        · intro w'
          go_simp
          with_reducible rfl
        rotate_left
        · simp only [Act.put, List.setIfInBounds_toArray, List.set_cons_zero, List.set_cons_succ, i64_w, i32_w]
          rfl
        refine take_ (i := 14) (N := some 63) (v := ?_) (a' := ?_) #[true, true, true, true, true, true, true, true, true, true, true, true, true, true, true, false, false, false, false, false, false, false, false, false, false, false, false, false] rfl rfl (by kernel_rfl) (fun _ _ _ h => h) (Or.inl ⟨by rfl, ?_⟩) hHeld ?_ ?_
        rotate_left
        · rintro w' ⟨s0, s1, s2, s3⟩
          go_simp
          with_reducible rfl
        rotate_left
        · simp only [Act.put, List.setIfInBounds_toArray, List.set_cons_zero, List.set_cons_succ, i64_w, i32_w]
          rfl
        refine pure_ (i := 15) (N := some 64) (v := ?_) (a' := ?_) #[true, true, true, true, true, true, true, true, true, true, true, true, true, true, true, true, false, false, false, false, false, false, false, false, false, false, false, false] rfl rfl (by kernel_rfl) (fun _ _ _ h => h) (Or.inl ⟨by rfl, ?_⟩) ?_ ?_
        rotate_left
        · intro w'
          go_simp
          with_reducible rfl
        rotate_left
        · simp only [Act.put, List.setIfInBounds_toArray, List.set_cons_zero, List.set_cons_succ, i64_w, i32_w]
          rfl
        refine pure_ (i := 16) (N := some 65) (v := ?_) (a' := ?_) #[true, true, true, true, true, true, true, true, true, true, true, true, true, true, true, true, true, false, false, false, false, false, false, false, false, false, false, false] rfl rfl (by kernel_rfl) (fun _ _ _ h => h) (Or.inl ⟨by rfl, ?_⟩) ?_ ?_
        rotate_left
        · intro w'
          go_simp
          with_reducible rfl
        rotate_left
        · simp only [Act.put, List.setIfInBounds_toArray, List.set_cons_zero, List.set_cons_succ, i64_w, i32_w]
          rfl
        refine pure_ (i := 17) (N := some 66) (v := ?_) (a' := ?_) #[true, true, true, true, true, true, true, true, true, true, true, true, true, true, true, true, true, true, false, false, false, false, false, false, false, false, false, false] rfl rfl (by kernel_rfl) (fun _ _ _ h => h) (Or.inl ⟨by rfl, ?_⟩) ?_ ?_
        rotate_left
        · intro w'
          go_simp
          with_reducible rfl
        rotate_left
        · simp only [Act.put, List.setIfInBounds_toArray, List.set_cons_zero, List.set_cons_succ, i64_w, i32_w]
          rfl
        refine pure_ (i := 18) (N := some 67) (v := ?_) (a' := ?_) #[true, true, true, true, true, true, true, true, true, true, true, true, true, true, true, true, true, true, true, false, false, false, false, false, false, false, false, false] rfl rfl (by kernel_rfl) (fun _ _ _ h => h) (Or.inl ⟨by rfl, ?_⟩) ?_ ?_
        rotate_left
        · intro w'
          go_simp
          with_reducible rfl
        rotate_left
        · simp only [Act.put, List.setIfInBounds_toArray, List.set_cons_zero, List.set_cons_succ, i64_w, i32_w]
          rfl
        refine pure_ (i := 20) (N := some 69) (v := ?_) (a' := ?_) #[true, true, true, true, true, true, true, true, true, true, true, true, true, true, true, true, true, true, true, false, true, false, false, false, false, false, false, false] rfl rfl (by kernel_rfl) (fun _ _ _ h => h) (Or.inl ⟨by rfl, ?_⟩) ?_ ?_
        rotate_left
        · intro w'
          go_simp
          with_reducible rfl
        rotate_left
        · simp only [Act.put, List.setIfInBounds_toArray, List.set_cons_zero, List.set_cons_succ, i64_w, i32_w]
          rfl
        refine pure_ (i := 22) (N := some 71) (v := ?_) (a' := ?_) #[true, true, true, true, true, true, true, true, true, true, true, true, true, true, true, true, true, true, true, false, true, false, true, false, false, false, false, false] rfl rfl (by kernel_rfl) (fun _ _ _ h => h) (Or.inl ⟨by rfl, ?_⟩) ?_ ?_
        rotate_left
        · intro w'
          go_simp
          with_reducible rfl
        rotate_left
        · simp only [Act.put, List.setIfInBounds_toArray, List.set_cons_zero, List.set_cons_succ, i64_w, i32_w]
          rfl
        refine pure_ (i := 24) (N := some 73) (v := ?_) (a' := ?_) #[true, true, true, true, true, true, true, true, true, true, true, true, true, true, true, true, true, true, true, false, true, false, true, false, true, false, false, false] rfl rfl (by kernel_rfl) (fun _ _ _ h => h) (Or.inl ⟨by rfl, ?_⟩) ?_ ?_
        rotate_left
        · intro w'
          go_simp
          with_reducible rfl
        rotate_left
        · simp only [Act.put, List.setIfInBounds_toArray, List.set_cons_zero, List.set_cons_succ, i64_w, i32_w]
          rfl
        refine take_ (i := 19) (N := some 68) (v := ?_) (a' := ?_) #[true, true, true, true, true, true, true, true, true, true, true, true, true, true, true, true, true, true, true, true, true, false, true, false, true, false, false, false] rfl rfl (by kernel_rfl) (fun _ _ _ h => h) (Or.inl ⟨by rfl, ?_⟩) hHeld ?_ ?_
        rotate_left
        · rintro w' ⟨s0, s1, s2, s3⟩
          go_simp
          with_reducible rfl
        rotate_left
        · simp only [Act.put, List.setIfInBounds_toArray, List.set_cons_zero, List.set_cons_succ, i64_w, i32_w]
          rfl
        refine take_ (i := 21) (N := some 70) (v := ?_) (a' := ?_) #[true, true, true, true, true, true, true, true, true, true, true, true, true, true, true, true, true, true, true, true, true, true, true, false, true, false, false, false] rfl rfl (by kernel_rfl) (fun _ _ _ h => h) (Or.inl ⟨by rfl, ?_⟩) hHeld ?_ ?_
        rotate_left
        · rintro w' ⟨s0, s1, s2, s3⟩
          go_simp
          with_reducible rfl
        rotate_left
        · simp only [Act.put, List.setIfInBounds_toArray, List.set_cons_zero, List.set_cons_succ, i64_w, i32_w]
          rfl
        refine take_ (i := 25) (N := some 74) (v := ?_) (a' := ?_) #[true, true, true, true, true, true, true, true, true, true, true, true, true, true, true, true, true, true, true, true, true, true, true, false, true, true, false, false] rfl rfl (by kernel_rfl) (fun _ _ _ h => h) (Or.inl ⟨by rfl, ?_⟩) hHeld ?_ ?_
        rotate_left
        · rintro w' ⟨s0, s1, s2, s3⟩
          go_simp
          with_reducible rfl
        rotate_left
        · simp only [Act.put, List.setIfInBounds_toArray, List.set_cons_zero, List.set_cons_succ, i64_w, i32_w]
          rfl
        refine one_ (i := 23) (N := some 72) #[true, true, true, true, true, true, true, true, true, true, true, true, true, true, true, true, true, true, true, true, true, true, true, true, true, true, false, false] rfl rfl (by kernel_rfl) (by decide) (fun K hK => ?_)
        refine goes_ Try.func31 (by kernel_rfl) rfl #[.pointer (some ⟨p, 0, none⟩), .agg #[.int .i64 sz, .int .i64 hp], .string ck, .int .i64 e] (by rfl) rfl rfl (by (try simp only [List.map_toArray, List.map_cons, List.map_nil]); first | done | rfl) ?_
        with_reducible refine (HAt.out _ ck HPw.out).mono ?_
        rintro e' w7 ⟨rfl, hb⟩
        refine ⟨_, rfl, ?_⟩
        rw [← HG.out]
        replace hB1 := Lib.hid (blk_below hB1.out hb (blk_lt hB1.out))
        replace hB2 := Lib.hid (blk_below hB2.out hb (blk_lt hB2.out))
        replace HB2 := Lib.hid (HB2.out.trans ((show Below _ _ _ from hb).mono HB2.out.size))
        replace HPw := Lib.hid (HPw.out.below hb)
        clear hb
        refine hK.out _ _ ⟨(blk_cell hB1.out 0), (blk_cell hB1.out 1), (blk_cell hB2.out 0), (blk_cell hB2.out 1)⟩ (fun hHeld => ?_)
        clear hK K
        refine norm_ (a' := ?_) ?_ ?_
        rotate_left
        · show Act.put _ (some 72) _ = _
          simp only [Act.put, List.setIfInBounds_toArray, List.set_cons_zero, List.set_cons_succ, i64_w, i32_w]
          rfl
        refine pure_ (i := 26) (N := some 75) (v := ?_) (a' := ?_) #[true, true, true, true, true, true, true, true, true, true, true, true, true, true, true, true, true, true, true, true, true, true, true, true, true, true, true, false] rfl rfl (by kernel_rfl) (fun _ _ _ h => h) (Or.inl ⟨by rfl, ?_⟩) ?_ ?_
        rotate_left
        · intro w'
          go_simp
          with_reducible rfl
        rotate_left
        · simp only [Act.put, List.setIfInBounds_toArray, List.set_cons_zero, List.set_cons_succ, i64_w, i32_w]
          rfl
        refine pure_ (i := 27) (N := some 76) (v := ?_) (a' := ?_) #[true, true, true, true, true, true, true, true, true, true, true, true, true, true, true, true, true, true, true, true, true, true, true, true, true, true, true, true] rfl rfl (by kernel_rfl) (fun _ _ _ h => h) (Or.inl ⟨by rfl, ?_⟩) ?_ ?_
        rotate_left
        · intro w'
          go_simp
          with_reducible rfl
        rotate_left
        · simp only [Act.put, List.setIfInBounds_toArray, List.set_cons_zero, List.set_cons_succ, i64_w, i32_w]
          rfl
        refine done_ (by kernel_rfl) ?_
        have b1 := (blk_cell hB1.out 1).trans rfl
        clear hHeld
        go_wp2
        go_roundg (F.length - (k + 1))
        case measure => omega
        case rel => exact ⟨k + 1, by omega, by go_num, by rw [HTK.out], HB2⟩
      · obtain ⟨j, rfl⟩ : ∃ j, k = j + 1 := ⟨k - 1, by omega⟩
        have hjn : j < F.length := by omega
        obtain ⟨b', f', d', q2, _, e2⟩ := CK.RowK.cell HR1.out hjn
        cases q2
        have hlt := next_lt HS.out HI.out.2 hkn
        obtain ⟨⟨pk, pn⟩, hp'⟩ : ∃ c : Cn, c = F[j] := ⟨_, rfl⟩
        rw [← hp'] at e2 hlt
        rw [← hc] at hlt
        have HLT := Lib.hid hlt
        have P0 : Hid (wr.cell? ⟨b, f + j * 2, none⟩ = some (.string pk)) := (HB2.out.cell (p := ⟨b, f + j * 2, none⟩) hb1).trans ((e2 0 (by omega)).trans rfl)
        have P1 : Hid (wr.cell? ⟨b, f + j * 2 + 1, none⟩ = some (.int .i64 pn)) := (HB2.out.cell (p := ⟨b, f + j * 2 + 1, none⟩) hb1).trans ((e2 1 (by omega)).trans rfl)
        have d3 : decide (0 < ((j : Int) + 1)) = true := by rw [decide_eq_true_iff]; omega
        have d3' : decide (0 < j + 1) = true := by rw [decide_eq_true_iff]; omega
        clear hc hk0 hp' e2 hlt
        go_wp2_with fail
        refine name_w (fun w' => (w'.drew.heap[wr.heap.size]? = some (.cells #[.string ck, .int .i64 cn] 55 (0, 0)) ∧ w'.drew.heap[w.heap.size]? = some (.cells #[.int .i64 sz, .int .i64 hp] 44 (0, 0))) ∧ (Below w6.heap.size w6 w'.drew ∧ PanesAt w'.drew p wd (cntOf l) pb (sumsOf wd l)) ∧ (w'.drew.cell? ⟨b, f + j * 2, none⟩ = some (.string pk) ∧ w'.drew.cell? ⟨b, f + j * 2 + 1, none⟩ = some (.int .i64 pn)) ∧ b < w'.drew.heap.size) ⟨⟨blk_new wr _, blk_old BKw.out _⟩, ⟨(HB2.out.alloc HB2.out.size _).drew, HPw.out.below ((Below.refl _ wr).alloc (Nat.le_refl _) _).drew⟩, ⟨(((Below.refl _ wr).alloc (Nat.le_refl _) _).cell (p := ⟨b, f + j * 2, none⟩) hbl).trans P0.out, (((Below.refl _ wr).alloc (Nat.le_refl _) _).cell (p := ⟨b, f + j * 2 + 1, none⟩) hbl).trans P1.out⟩, Nat.lt_of_lt_of_le hbl ((Below.refl _ wr).alloc (Nat.le_refl _) _).size⟩ ?_
        clear HB2 a0 a1 BKw HPw P0 P1 hbl
        rintro w0 ⟨⟨hB1, hB2⟩, ⟨HB2, HPw⟩, ⟨P0, P1⟩, hbl⟩
        replace hB1 := Lib.hid hB1
        replace hB2 := Lib.hid hB2
        replace HB2 := Lib.hid HB2
        replace HPw := Lib.hid HPw
        replace P0 := Lib.hid P0
        replace P1 := Lib.hid P1
        replace hbl := Lib.hid hbl
        have z1 : 0 ≤ (j : Int) := by omega
        have z2 : (j : Int) < (F.length : Int) := by omega
        have z4 : IntKind.i64.wrap (j : Int) = (j : Int) := IntWalk.i64_in _ (by omega)
        have z3 : wrap64 (j : Int) = (j : Int) := by clear z4; unfold wrap64; omega
        refine start_ (n := 28) (S := fun w' => w'.cell? ⟨wr.heap.size, 0, none⟩ = some (.string ck) ∧ w'.cell? ⟨wr.heap.size, 1, none⟩ = some (.int .i64 cn) ∧ w'.cell? ⟨w.heap.size, 0, none⟩ = some (.int .i64 sz) ∧ w'.cell? ⟨w.heap.size, 1, none⟩ = some (.int .i64 hp) ∧ w'.cell? ⟨b, f + j * 2, none⟩ = some (.string pk) ∧ w'.cell? ⟨b, f + j * 2 + 1, none⟩ = some (.int .i64 pn)) (ds := []) #[false, false, false, false, false, false, false, false, false, false, false, false, false, false, false, false, false, false, false, false, false, false, false, false, false, false, false, false] (by kernel_rfl) rfl rfl ⟨(blk_cell hB1.out 0), (blk_cell hB1.out 1), (blk_cell hB2.out 0), (blk_cell hB2.out 1), P0.out, P1.out⟩ (fun hHeld => ?_)
        refine pure_ (i := 0) (N := some 49) (v := ?_) (a' := ?_) #[true, false, false, false, false, false, false, false, false, false, false, false, false, false, false, false, false, false, false, false, false, false, false, false, false, false, false, false] rfl rfl (by kernel_rfl) (fun _ _ _ h => h) (Or.inl ⟨by rfl, ?_⟩) ?_ ?_
        rotate_left
        · intro w'
          go_simp
          with_reducible rfl
        rotate_left
        · simp only [Act.put, List.setIfInBounds_toArray, List.set_cons_zero, List.set_cons_succ, i64_w, i32_w]
          rfl
        refine pure_ (i := 1) (N := some 50) (v := ?_) (a' := ?_) #[true, true, false, false, false, false, false, false, false, false, false, false, false, false, false, false, false, false, false, false, false, false, false, false, false, false, false, false] rfl rfl (by kernel_rfl) (fun _ _ _ h => h) (Or.inl ⟨by rfl, ?_⟩) ?_ ?_
        rotate_left
        · intro w'
          go_simp
          with_reducible rfl
        rotate_left
        · simp only [Act.put, List.setIfInBounds_toArray, List.set_cons_zero, List.set_cons_succ, i64_w, i32_w]
          rfl
        refine pure_ (i := 2) (N := some 51) (v := ?_) (a' := ?_) #[true, true, true, false, false, false, false, false, false, false, false, false, false, false, false, false, false, false, false, false, false, false, false, false, false, false, false, false] rfl rfl (by kernel_rfl) (fun _ _ _ h => h) (Or.inl ⟨by rfl, ?_⟩) ?_ ?_
        rotate_left
        · intro w'
          go_simp
          with_reducible rfl
        rotate_left
        · simp only [Act.put, List.setIfInBounds_toArray, List.set_cons_zero, List.set_cons_succ, i64_w, i32_w]
          rfl
        refine pure_ (i := 3) (N := some 52) (v := ?_) (a' := ?_) #[true, true, true, true, false, false, false, false, false, false, false, false, false, false, false, false, false, false, false, false, false, false, false, false, false, false, false, false] rfl rfl (by kernel_rfl) (fun _ _ _ h => h) (Or.inl ⟨by rfl, ?_⟩) ?_ ?_
        rotate_left
        · intro w'
          go_simp
          with_reducible rfl
        rotate_left
        · simp only [Act.put, List.setIfInBounds_toArray, List.set_cons_zero, List.set_cons_succ, i64_w, i32_w]
          rfl
        refine pure_ (i := 4) (N := some 53) (v := ?_) (a' := ?_) #[true, true, true, true, true, false, false, false, false, false, false, false, false, false, false, false, false, false, false, false, false, false, false, false, false, false, false, false] rfl rfl (by kernel_rfl) (fun _ _ _ h => h) (Or.inl ⟨by rfl, ?_⟩) ?_ ?_
        rotate_left
        · intro w'
          go_simp
          with_reducible rfl
        rotate_left
        · simp only [Act.put, List.setIfInBounds_toArray, List.set_cons_zero, List.set_cons_succ, i64_w, i32_w]
          rfl
        refine pure_ (i := 5) (N := some 54) (v := ?_) (a' := ?_) #[true, true, true, true, true, true, false, false, false, false, false, false, false, false, false, false, false, false, false, false, false, false, false, false, false, false, false, false] rfl rfl (by kernel_rfl) (fun _ _ _ h => h) (Or.inl ⟨by rfl, ?_⟩) ?_ ?_
        rotate_left
        · intro w'
          go_simp
          with_reducible rfl
        rotate_left
        · simp only [Act.put, List.setIfInBounds_toArray, List.set_cons_zero, List.set_cons_succ, i64_w, i32_w]
          rfl
        refine pure_ (i := 6) (N := some 55) (v := ?_) (a' := ?_) #[true, true, true, true, true, true, true, false, false, false, false, false, false, false, false, false, false, false, false, false, false, false, false, false, false, false, false, false] rfl rfl (by kernel_rfl) (fun _ _ _ h => h) (Or.inl ⟨by rfl, ?_⟩) ?_ ?_
        rotate_left
        · intro w'
          go_simp
          with_reducible rfl
        rotate_left
        · simp only [Act.put, List.setIfInBounds_toArray, List.set_cons_zero, List.set_cons_succ, i64_w, i32_w]
          rfl
        refine take_ (i := 7) (N := some 56) (v := ?_) (a' := ?_) #[true, true, true, true, true, true, true, true, false, false, false, false, false, false, false, false, false, false, false, false, false, false, false, false, false, false, false, false] rfl rfl (by kernel_rfl) (fun _ _ _ h => h) (Or.inl ⟨by rfl, ?_⟩) hHeld ?_ ?_
        rotate_left
        · rintro w' ⟨s0, s1, s2, s3, s4, s5⟩
          go_simp
          with_reducible rfl
        rotate_left
        · simp only [Act.put, List.setIfInBounds_toArray, List.set_cons_zero, List.set_cons_succ, i64_w, i32_w]
          rfl
        refine take_ (i := 8) (N := some 57) (v := ?_) (a' := ?_) #[true, true, true, true, true, true, true, true, true, false, false, false, false, false, false, false, false, false, false, false, false, false, false, false, false, false, false, false] rfl rfl (by kernel_rfl) (fun _ _ _ h => h) (Or.inl ⟨by rfl, ?_⟩) hHeld ?_ ?_
        rotate_left
        · rintro w' ⟨s0, s1, s2, s3, s4, s5⟩
          go_simp
          with_reducible rfl
        rotate_left
        · simp only [Act.put, List.setIfInBounds_toArray, List.set_cons_zero, List.set_cons_succ, i64_w, i32_w]
          rfl
        refine one_ (i := 9) (N := some 58) #[true, true, true, true, true, true, true, true, true, true, false, false, false, false, false, false, false, false, false, false, false, false, false, false, false, false, false, false] rfl rfl (by kernel_rfl) (by decide) (fun K hK => ?_)
        refine goes_ Try.func30 (by kernel_rfl) rfl #[.agg #[.string pk, .int .i64 pn], .agg #[.string ck, .int .i64 cn]] (by rfl) rfl rfl (by (try simp only [List.map_toArray, List.map_cons, List.map_nil]); first | done | rfl) ?_
        with_reducible refine (less_calls (pk, pn) (ck, cn) _).mono ?_
        rintro e' w7 ⟨rfl, hb⟩
        refine ⟨_, rfl, ?_⟩
        rw [HLT.out]
        replace hB1 := Lib.hid (blk_below hB1.out hb (blk_lt hB1.out))
        replace hB2 := Lib.hid (blk_below hB2.out hb (blk_lt hB2.out))
        replace HB2 := Lib.hid (HB2.out.trans ((show Below _ _ _ from hb).mono HB2.out.size))
        replace HPw := Lib.hid (HPw.out.below hb)
        replace P0 := Lib.hid ((hb.cell (p := ⟨b, f + j * 2, none⟩) hbl.out).trans P0.out)
        replace P1 := Lib.hid ((hb.cell (p := ⟨b, f + j * 2 + 1, none⟩) hbl.out).trans P1.out)
        replace hbl := Lib.hid (Nat.lt_of_lt_of_le hbl.out hb.size)
        clear hb
        refine hK.out _ _ ⟨(blk_cell hB1.out 0), (blk_cell hB1.out 1), (blk_cell hB2.out 0), (blk_cell hB2.out 1), P0.out, P1.out⟩ (fun hHeld => ?_)
        clear hK K
        refine norm_ (a' := ?_) ?_ ?_
        rotate_left
        · show Act.put _ (some 58) _ = _
          simp only [Act.put, List.setIfInBounds_toArray, List.set_cons_zero, List.set_cons_succ, i64_w, i32_w]
          rfl
        refine pure_ (i := 10) (N := some 59) (v := ?_) (a' := ?_) #[true, true, true, true, true, true, true, true, true, true, true, false, false, false, false, false, false, false, false, false, false, false, false, false, false, false, false, false] rfl rfl (by kernel_rfl) (fun _ _ _ h => h) (Or.inl ⟨by rfl, ?_⟩) ?_ ?_
        rotate_left
        · intro w'
          go_simp
          with_reducible rfl
        rotate_left
        · simp only [Act.put, List.setIfInBounds_toArray, List.set_cons_zero, List.set_cons_succ, i64_w, i32_w]
          rfl
        refine pure_ (i := 11) (N := some 60) (v := ?_) (a' := ?_) #[true, true, true, true, true, true, true, true, true, true, true, true, false, false, false, false, false, false, false, false, false, false, false, false, false, false, false, false] rfl rfl (by kernel_rfl) (fun _ _ _ h => h) (Or.inl ⟨by rfl, ?_⟩) ?_ ?_
        rotate_left
        · intro w'
          go_simp
          with_reducible rfl
        rotate_left
        · simp only [Act.put, List.setIfInBounds_toArray, List.set_cons_zero, List.set_cons_succ, i64_w, i32_w]
          rfl
        refine pure_ (i := 12) (N := some 61) (v := ?_) (a' := ?_) #[true, true, true, true, true, true, true, true, true, true, true, true, true, false, false, false, false, false, false, false, false, false, false, false, false, false, false, false] rfl rfl (by kernel_rfl) (fun _ _ _ h => h) (Or.inl ⟨by rfl, ?_⟩) ?_ ?_
        rotate_left
        · intro w'
          go_simp
          with_reducible rfl
        rotate_left
        · simp only [Act.put, List.setIfInBounds_toArray, List.set_cons_zero, List.set_cons_succ, i64_w, i32_w]
          rfl
        refine pure_ (i := 13) (N := some 62) (v := ?_) (a' := ?_) #[true, true, true, true, true, true, true, true, true, true, true, true, true, true, false, false, false, false, false, false, false, false, false, false, false, false, false, false] rfl rfl (by kernel_rfl) (fun _ _ _ h => h) (Or.inl ⟨by rfl, ?_⟩) ?_ ?_
        rotate_left
        · intro w'
          go_simp
          with_reducible rfl
        rotate_left
        · simp only [Act.put, List.setIfInBounds_toArray, List.set_cons_zero, List.set_cons_succ, i64_w, i32_w]
          rfl
        refine take_ (i := 14) (N := some 63) (v := ?_) (a' := ?_) #[true, true, true, true, true, true, true, true, true, true, true, true, true, true, true, false, false, false, false, false, false, false, false, false, false, false, false, false] rfl rfl (by kernel_rfl) (fun _ _ _ h => h) (Or.inl ⟨by rfl, ?_⟩) hHeld ?_ ?_
        rotate_left
        · rintro w' ⟨s0, s1, s2, s3, s4, s5⟩
          go_simp
          with_reducible rfl
        rotate_left
        · simp only [Act.put, List.setIfInBounds_toArray, List.set_cons_zero, List.set_cons_succ, i64_w, i32_w]
          rfl
        refine pure_ (i := 15) (N := some 64) (v := ?_) (a' := ?_) #[true, true, true, true, true, true, true, true, true, true, true, true, true, true, true, true, false, false, false, false, false, false, false, false, false, false, false, false] rfl rfl (by kernel_rfl) (fun _ _ _ h => h) (Or.inl ⟨by rfl, ?_⟩) ?_ ?_
        rotate_left
        · intro w'
          go_simp
          with_reducible rfl
        rotate_left
        · simp only [Act.put, List.setIfInBounds_toArray, List.set_cons_zero, List.set_cons_succ, i64_w, i32_w]
          rfl
        refine pure_ (i := 16) (N := some 65) (v := ?_) (a' := ?_) #[true, true, true, true, true, true, true, true, true, true, true, true, true, true, true, true, true, false, false, false, false, false, false, false, false, false, false, false] rfl rfl (by kernel_rfl) (fun _ _ _ h => h) (Or.inl ⟨by rfl, ?_⟩) ?_ ?_
        rotate_left
        · intro w'
          go_simp
          with_reducible rfl
        rotate_left
        · simp only [Act.put, List.setIfInBounds_toArray, List.set_cons_zero, List.set_cons_succ, i64_w, i32_w]
          rfl
        refine pure_ (i := 17) (N := some 66) (v := ?_) (a' := ?_) #[true, true, true, true, true, true, true, true, true, true, true, true, true, true, true, true, true, true, false, false, false, false, false, false, false, false, false, false] rfl rfl (by kernel_rfl) (fun _ _ _ h => h) (Or.inl ⟨by rfl, ?_⟩) ?_ ?_
        rotate_left
        · intro w'
          go_simp
          with_reducible rfl
        rotate_left
        · simp only [Act.put, List.setIfInBounds_toArray, List.set_cons_zero, List.set_cons_succ, i64_w, i32_w]
          rfl
        refine pure_ (i := 18) (N := some 67) (v := ?_) (a' := ?_) #[true, true, true, true, true, true, true, true, true, true, true, true, true, true, true, true, true, true, true, false, false, false, false, false, false, false, false, false] rfl rfl (by kernel_rfl) (fun _ _ _ h => h) (Or.inl ⟨by rfl, ?_⟩) ?_ ?_
        rotate_left
        · intro w'
          go_simp
          with_reducible rfl
        rotate_left
        · simp only [Act.put, List.setIfInBounds_toArray, List.set_cons_zero, List.set_cons_succ, i64_w, i32_w]
          rfl
        refine pure_ (i := 20) (N := some 69) (v := ?_) (a' := ?_) #[true, true, true, true, true, true, true, true, true, true, true, true, true, true, true, true, true, true, true, false, true, false, false, false, false, false, false, false] rfl rfl (by kernel_rfl) (fun _ _ _ h => h) (Or.inl ⟨by rfl, ?_⟩) ?_ ?_
        rotate_left
        · intro w'
          go_simp
          with_reducible rfl
        rotate_left
        · simp only [Act.put, List.setIfInBounds_toArray, List.set_cons_zero, List.set_cons_succ, i64_w, i32_w]
          rfl
        refine pure_ (i := 22) (N := some 71) (v := ?_) (a' := ?_) #[true, true, true, true, true, true, true, true, true, true, true, true, true, true, true, true, true, true, true, false, true, false, true, false, false, false, false, false] rfl rfl (by kernel_rfl) (fun _ _ _ h => h) (Or.inl ⟨by rfl, ?_⟩) ?_ ?_
        rotate_left
        · intro w'
          go_simp
          with_reducible rfl
        rotate_left
        · simp only [Act.put, List.setIfInBounds_toArray, List.set_cons_zero, List.set_cons_succ, i64_w, i32_w]
          rfl
        refine pure_ (i := 24) (N := some 73) (v := ?_) (a' := ?_) #[true, true, true, true, true, true, true, true, true, true, true, true, true, true, true, true, true, true, true, false, true, false, true, false, true, false, false, false] rfl rfl (by kernel_rfl) (fun _ _ _ h => h) (Or.inl ⟨by rfl, ?_⟩) ?_ ?_
        rotate_left
        · intro w'
          go_simp
          with_reducible rfl
        rotate_left
        · simp only [Act.put, List.setIfInBounds_toArray, List.set_cons_zero, List.set_cons_succ, i64_w, i32_w]
          rfl
        refine take_ (i := 19) (N := some 68) (v := ?_) (a' := ?_) #[true, true, true, true, true, true, true, true, true, true, true, true, true, true, true, true, true, true, true, true, true, false, true, false, true, false, false, false] rfl rfl (by kernel_rfl) (fun _ _ _ h => h) (Or.inl ⟨by rfl, ?_⟩) hHeld ?_ ?_
        rotate_left
        · rintro w' ⟨s0, s1, s2, s3, s4, s5⟩
          go_simp
          with_reducible rfl
        rotate_left
        · simp only [Act.put, List.setIfInBounds_toArray, List.set_cons_zero, List.set_cons_succ, i64_w, i32_w]
          rfl
        refine take_ (i := 21) (N := some 70) (v := ?_) (a' := ?_) #[true, true, true, true, true, true, true, true, true, true, true, true, true, true, true, true, true, true, true, true, true, true, true, false, true, false, false, false] rfl rfl (by kernel_rfl) (fun _ _ _ h => h) (Or.inl ⟨by rfl, ?_⟩) hHeld ?_ ?_
        rotate_left
        · rintro w' ⟨s0, s1, s2, s3, s4, s5⟩
          go_simp
          with_reducible rfl
        rotate_left
        · simp only [Act.put, List.setIfInBounds_toArray, List.set_cons_zero, List.set_cons_succ, i64_w, i32_w]
          rfl
        refine take_ (i := 25) (N := some 74) (v := ?_) (a' := ?_) #[true, true, true, true, true, true, true, true, true, true, true, true, true, true, true, true, true, true, true, true, true, true, true, false, true, true, false, false] rfl rfl (by kernel_rfl) (fun _ _ _ h => h) (Or.inl ⟨by rfl, ?_⟩) hHeld ?_ ?_
        rotate_left
        · rintro w' ⟨s0, s1, s2, s3, s4, s5⟩
          go_simp
          with_reducible rfl
        rotate_left
        · simp only [Act.put, List.setIfInBounds_toArray, List.set_cons_zero, List.set_cons_succ, i64_w, i32_w]
          rfl
        refine one_ (i := 23) (N := some 72) #[true, true, true, true, true, true, true, true, true, true, true, true, true, true, true, true, true, true, true, true, true, true, true, true, true, true, false, false] rfl rfl (by kernel_rfl) (by decide) (fun K hK => ?_)
        refine goes_ Try.func31 (by kernel_rfl) rfl #[.pointer (some ⟨p, 0, none⟩), .agg #[.int .i64 sz, .int .i64 hp], .string ck, .int .i64 e] (by rfl) rfl rfl (by (try simp only [List.map_toArray, List.map_cons, List.map_nil]); first | done | rfl) ?_
        with_reducible refine (HAt.out _ ck HPw.out).mono ?_
        rintro e' w8 ⟨rfl, hb⟩
        refine ⟨_, rfl, ?_⟩
        rw [← HG.out]
        replace hB1 := Lib.hid (blk_below hB1.out hb (blk_lt hB1.out))
        replace hB2 := Lib.hid (blk_below hB2.out hb (blk_lt hB2.out))
        replace HB2 := Lib.hid (HB2.out.trans ((show Below _ _ _ from hb).mono HB2.out.size))
        replace HPw := Lib.hid (HPw.out.below hb)
        replace P0 := Lib.hid ((hb.cell (p := ⟨b, f + j * 2, none⟩) hbl.out).trans P0.out)
        replace P1 := Lib.hid ((hb.cell (p := ⟨b, f + j * 2 + 1, none⟩) hbl.out).trans P1.out)
        replace hbl := Lib.hid (Nat.lt_of_lt_of_le hbl.out hb.size)
        clear hb
        refine hK.out _ _ ⟨(blk_cell hB1.out 0), (blk_cell hB1.out 1), (blk_cell hB2.out 0), (blk_cell hB2.out 1), P0.out, P1.out⟩ (fun hHeld => ?_)
        clear hK K
        refine norm_ (a' := ?_) ?_ ?_
        rotate_left
        · show Act.put _ (some 72) _ = _
          simp only [Act.put, List.setIfInBounds_toArray, List.set_cons_zero, List.set_cons_succ, i64_w, i32_w]
          rfl
        refine pure_ (i := 26) (N := some 75) (v := ?_) (a' := ?_) #[true, true, true, true, true, true, true, true, true, true, true, true, true, true, true, true, true, true, true, true, true, true, true, true, true, true, true, false] rfl rfl (by kernel_rfl) (fun _ _ _ h => h) (Or.inl ⟨by rfl, ?_⟩) ?_ ?_
        rotate_left
        · intro w'
          go_simp
          with_reducible rfl
        rotate_left
        · simp only [Act.put, List.setIfInBounds_toArray, List.set_cons_zero, List.set_cons_succ, i64_w, i32_w]
          rfl
        refine pure_ (i := 27) (N := some 76) (v := ?_) (a' := ?_) #[true, true, true, true, true, true, true, true, true, true, true, true, true, true, true, true, true, true, true, true, true, true, true, true, true, true, true, true] rfl rfl (by kernel_rfl) (fun _ _ _ h => h) (Or.inl ⟨by rfl, ?_⟩) ?_ ?_
        rotate_left
        · intro w'
          go_simp
          with_reducible rfl
        rotate_left
        · simp only [Act.put, List.setIfInBounds_toArray, List.set_cons_zero, List.set_cons_succ, i64_w, i32_w]
          rfl
        refine done_ (by kernel_rfl) ?_
        have b1 := (blk_cell hB1.out 1).trans rfl
        clear hHeld z1 z2 z3 z4
        go_wp2
        go_roundg (F.length - (j + 1 + 1))
        case measure => omega
        case rel => exact ⟨j + 1 + 1, by omega, by go_num, by rw [HTK.out], HB2⟩
    · obtain rfl : k = F.length := by omega
      replace HSd : Hid (S = ((keysL l).map g).sum) := by show _ = _; rw [HSd.out, List.take_length]; exact HSU.out
      replace HB := Lib.hid (HB.out.trans (HB2.out.mono HB.out.size))
      replace HL := Lib.hid (HL.out.below HB2.out)
      replace HP := Lib.hid (HP.out.below HB2.out)
      replace BK := Lib.hid (blk_below BK.out HB2.out (blk_lt BK.out))
      obtain ⟨w7, hw7⟩ : ∃ x, x = wr := ⟨_, rfl⟩
      subst hw7
      have HMP : Hid (MapT Try.prog 9 Value.string Value.bool (w7.alloc (.map #[] 0)) w7.heap.size ([] : List (ByteArray × Bool))) := MapT_made _ _ _ _ _
      obtain ⟨vo, vc, rfl, hvm⟩ := SliceR.shape HL.out
      have hll : l.length ≤ 9223372036854775807 := by unfold maxLen at *; omega
      have hz : ∀ W : World, (zeroValue 4).run Try.prog W = .ok (.bool false) W := fun _ => by kernel_rfl
      replace hz := Lib.hid hz
      clear HB2 HR1 hsb htl hvm hkn
      have hmm := @run_makeMap Try.prog
      go_wp2
      clear hmm
      go_loopg [17, 85] l.length (fun m s i wr => ∃ q : Nat, q + m = l.length ∧ i = .int .i64 q ∧ s = .int .i64 ((keysL (l.take q)).map g).sum ∧ Hid (MapT Try.prog 9 Value.string Value.bool wr w7.heap.size ((keysL (l.take q)).map fun x => (x, true))) ∧ Hid (Below w7.heap.size w7 wr))
      case atStart => exact ⟨0, by omega, rfl, by simp [keysL], by simpa [keysL] using HMP, (Below.refl _ w7).alloc (Nat.le_refl _) _⟩
      case round =>
        obtain ⟨q, hqm, rfl, rfl, HM, HB3⟩ := hrel
        have hsb := sum_le g 62914560 (keysL (l.take q)) fun k _ => HGB.out k
        have htl : ((keysL (l.take q)).length : Int) ≤ 60 := by have := keysL_len (l.take q); have := List.length_take_le q l; omega
        obtain ⟨V, hV⟩ : ∃ V, V = ((keysL (l.take q)).map g).sum := ⟨_, rfl⟩
        rw [← hV] at hsb
        rw [← hV]
        have HVd := Lib.hid hV
        clear hV
        by_cases hqn : q < l.length
        · obtain ⟨b, f, d, q1, hb1, hok, e0, e1, e2⟩ := adds_cellD HL.out hqn
          cases q1
          obtain ⟨a, ha⟩ : ∃ a, a = l[q] := ⟨_, rfl⟩
          rw [← ha] at e0 e1 e2 hok
          have a0 := (HB3.out.cell (p := ⟨b, f + q * 3, none⟩) hb1).trans e0
          have a1 := (HB3.out.cell (p := ⟨b, f + q * 3 + 1, none⟩) hb1).trans e1
          have a2 := (HB3.out.cell (p := ⟨b, f + q * 3 + 2, none⟩) hb1).trans e2
          have HTQ : Hid (keysL (l.take (q + 1)) = if elemB (keysL (l.take q)) a.key = true then keysL (l.take q) else keysL (l.take q) ++ [a.key]) := by
            show _ = _
            rw [List.take_succ_eq_append_getElem hqn, ← ha, keysL_snoc]
          have HGD : Hid (GoodK Try.prog 9 (.string a.key)) := strGood a.key hok.1
          have HMa : Hid (MapT Try.prog 9 Value.string Value.bool (wr.alloc (.cells #[.string a.key, .int .i64 a.at_, .int .i64 a.n] 60)) w7.heap.size ((keysL (l.take q)).map fun x => (x, true))) := HM.out.alloc _
          have HB3a : Hid (Below w7.heap.size w7 (wr.alloc (.cells #[.string a.key, .int .i64 a.at_, .int .i64 a.n] 60))) := HB3.out.alloc HB3.out.size _
          have hmlt : w7.heap.size < wr.heap.size := HM.out.lt
          obtain ⟨E, hE⟩ : ∃ E, E = elemB (keysL (l.take q)) a.key := ⟨_, rfl⟩
          have hlook : ((lookA ((keysL (l.take q)).map fun x => (x, true)) a.key).map Value.bool).getD (.bool false) = .bool E := by rw [hE]; exact look_seen _ _
          have HLK := Lib.hid hlook
          rw [← hE] at HTQ
          have HEd := Lib.hid hE
          clear e0 e1 e2 hok ha hE hlook
          cases E
          · have HPa : Hid (PanesAt w7 p wd (cntOf l) pb (sumsOf wd l)) := HP
            have hpl : p < w7.heap.size ∧ pb < w7.heap.size := ⟨blk_lt HP.out.blk, HP.out.map.lt⟩
            have hsl := blk_lt BK.out
            rw [if_neg (by simp)] at HTQ
            have BA : Hid ((wr.alloc (.cells #[.string a.key, .int .i64 a.at_, .int .i64 a.n] 60)).heap[wr.heap.size]? = some (.cells #[.string a.key, .int .i64 a.at_, .int .i64 a.n] 60 (0, 0))) := blk_new wr _
            have hgk := HGB.out a.key
            go_wp2_with (first | (at_lookup; refine wpList_lookT _ rfl _ _ _ rfl _ _ strKeyed Try.underlying58 (.bool false) (hz.out _) Value.string Value.bool str_inj w7.heap.size _ rfl HMa.out a.key rfl HGD.out (.bool false) HLK.out ?_) | (at_mapUpdate; refine wpList_updT _ rfl _ _ _ _ rfl _ _ strKeyed Try.underlying58 Value.string Value.bool str_inj w7.heap.size _ rfl HMa.out a.key rfl HGD.out true rfl ?_; intro w9 hS9 hfr9 hsz9; rw [put_seen, ← HEd.out] at hS9; replace HMa := Lib.hid hS9; replace BA := Lib.hid (blk_fr BA.out hfr9 (by simp; omega)); replace HB3a := Lib.hid (HB3a.out.trans (hfr9.below HB3a.out.size (by simp))); clear hS9 hfr9 hsz9; have b0 := (blk_cell BA.out 0).trans rfl; have s0 := (blk_cell (blk_below BK.out HB3a.out hsl) 0).trans rfl; have s1 := (blk_cell (blk_below BK.out HB3a.out hsl) 1).trans rfl; replace HPa := Lib.hid (HPa.out.below HB3a.out)))
            refine (HAt.out _ a.key HPa.out).mono ?_
            rintro e' w10 ⟨rfl, hb⟩
            replace HMa := Lib.hid (HMa.out.below hb HMa.out.lt)
            replace HB3a := Lib.hid (HB3a.out.trans ((show Below _ _ _ from hb).mono HB3a.out.size))
            clear hb b0 s0 s1
            obtain ⟨G, hG⟩ : ∃ G, G = g a.key := ⟨_, rfl⟩
            rw [← hG] at hgk
            rw [← hG]
            have HGd := Lib.hid hG
            clear hG
            go_wp2
            go_roundg (l.length - (q + 1))
            case measure => omega
            case rel => exact ⟨q + 1, by omega, by go_num, by rw [HTQ.out, List.map_append, List.sum_append, ← HVd.out, HGd.out]; simp, by rw [HTQ.out]; simpa using HMa, HB3a⟩
          · rw [if_pos rfl] at HTQ
            go_wp2_with (at_lookup; refine wpList_lookT _ rfl _ _ _ rfl _ _ strKeyed Try.underlying58 (.bool false) (hz.out _) Value.string Value.bool str_inj w7.heap.size _ rfl HMa.out a.key rfl HGD.out (.bool true) HLK.out ?_)
            go_wp2
            go_roundg (l.length - (q + 1))
            case measure => omega
            case rel => exact ⟨q + 1, by omega, by go_num, by rw [HTQ.out, HVd.out], by rw [HTQ.out]; exact HMa, HB3a⟩
        · obtain rfl : q = l.length := by omega
          replace HVd : Hid (V = S) := by show _ = _; rw [HVd.out, List.take_length]; exact HSd.out.symm
          have hSV := HVd.out
          replace HB := Lib.hid (HB.out.trans (HB3.out.mono HB.out.size))
          subst hSV
          have d4 : (V == V) = true := by simp
          clear HB3 HM
          go_wp2_with fail
          refine (awake_calls _).mono ?_
          rintro e' w8 ⟨rfl, hb⟩
          replace HB := Lib.hid (HB.out.trans ((show Below _ _ _ from hb).mono HB.out.size))
          clear hb
          go_wp2
          go_ret
          exact ⟨rfl, HB.out⟩
end Go.Proofs.Ytmddlbgdmdepdaa
