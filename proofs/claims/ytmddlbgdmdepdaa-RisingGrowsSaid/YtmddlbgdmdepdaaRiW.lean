/- RisingGrows: the law's function returns true, by a walk. No condition. -/
import Derived.Test.YtmddlbgdmdepdaaRiV
import Derived.Test.YtmddlbgdmdepdaaNameA
set_option linter.unusedVariables false
set_option linter.unusedSimpArgs false
set_option maxRecDepth 100000
namespace Go.Proofs.Ytmddlbgdmdepdaa
open Go.Maps Go.MapKept Go.RowKit Go.ChangeMaps Go.Shelf CK Go.Proofs.YtmddlbgdmdepdaaW.PrintLast

theorem grow_rise (l : List Add) (a : Add) (W sp now : Int) (hr : rightB a = true) (hs : 1 ≤ sp) (ha : a.at_ = now - now % W - 1) (k : ByteArray) :
    riseOf (l ++ [a]) W sp now k = if k = a.key then ⟨k, (riseOf l W sp now k).nw + a.n, (riseOf l W sp now k).od⟩ else riseOf l W sp now k := by
  unfold riseOf
  rw [rangeSum_snoc, rangeSum_snoc, hr]
  have e2 : (decide (now - now % W - 2 * sp ≤ a.at_) && decide (a.at_ < now - now % W - sp)) = false := by
    rw [ha]; simp; omega
  by_cases h : k = a.key
  · rw [if_pos h, e2]
    have e1 : (decide (now - now % W - sp ≤ a.at_) && decide (a.at_ < now - now % W)) = true := by rw [ha]; simp; omega
    rw [e1]
    simp [h]
  · rw [if_neg h]
    have : decide (a.key = k) = false := by rw [decide_eq_false_iff_not]; exact fun e => h e.symm
    rw [this]; simp
/-- a key's number in a row of rises -/
def oldOf (key : ByteArray) (l : List Rz) : Int := l.foldl (fun o r => if r.key = key then r.nw else o) 0
theorem oldOf_snoc (key : ByteArray) (l : List Rz) (r : Rz) : oldOf key (l ++ [r]) = if r.key = key then r.nw else oldOf key l := by
  unfold oldOf; rw [List.foldl_append]; rfl
theorem oldOf_none {key : ByteArray} {l : List Rz} (h : ∀ r ∈ l, r.key ≠ key) : oldOf key l = 0 := by
  refine snoc_ind (p := fun l => (∀ r ∈ l, r.key ≠ key) → oldOf key l = 0) (fun _ => rfl) (fun l a ih h => ?_) l h
  rw [oldOf_snoc, if_neg (h a (by simp))]
  exact ih fun r hr => h r (List.mem_append_left _ hr)
theorem oldOf_some {key : ByteArray} {l : List Rz} {r : Rz} (hr : r ∈ l) (hk : r.key = key) (hu : ∀ x ∈ l, x.key = key → x = r) : oldOf key l = r.nw := by
  refine snoc_ind (p := fun l => r ∈ l → (∀ x ∈ l, x.key = key → x = r) → oldOf key l = r.nw) (fun h => by simp at h) (fun l a ih hr hu => ?_) l hr hu
  rw [oldOf_snoc]
  by_cases h : a.key = key
  · rw [if_pos h, hu a (by simp) h]
  · rw [if_neg h]
    rcases List.mem_append.1 hr with hr | hr
    · exact ih hr fun x hx => hu x (List.mem_append_left _ hx)
    · simp at hr; subst hr; exact (h hk).elim
set_option maxHeartbeats 4000000 in
theorem law_grows (x : Int) (l : List Add) (v : Value) (t now : Int) (key : ByteArray) (n : Int) (w : World) (h0 : (Lit.int .u8 x).wf = true) (hl : AddsAt w l v) (h1 : (Lit.int .u8 t).wf = true) (h2 : (Lit.int .u16 now).wf = true) (hk : key.size ≤ 140737488351232) (h3 : (Lit.int .u8 n).wf = true) :
    Calls Try.prog 13 #[.int .u8 x, v, .int .u8 t, .int .u16 now, .string key, .int .u8 n] w (BoolPost w true) := by
  have x1 := bounds_u8 h0
  have t1 := bounds_u8 h1
  have n1 := bounds_u16 h2
  have m1 := bounds_u8 h3
  have hks : key.size ≤ 9223372036854775807 := by omega
  clear h0 h1 h2 h3
  have HL := Lib.hid hl
  have HB : Hid (Below w.heap.size w w) := Below.refl _ _
  clear hl
  obtain ⟨W, hW⟩ : ∃ W, 1 + x % 20 = W := ⟨_, rfl⟩
  obtain ⟨A, hA⟩ : ∃ A, 1 + t % 4 = A := ⟨_, rfl⟩
  have W1 : 1 ≤ W ∧ W ≤ 20 := by omega
  have A1 : 1 ≤ A ∧ A ≤ 4 := by omega
  obtain ⟨sp, hsp⟩ : ∃ sp, W * A = sp := ⟨_, rfl⟩
  have sp1 : 1 ≤ sp := by rw [← hsp]; exact Int.le_trans W1.1 (Int.le_mul_of_pos_right' W A W1.1 A1.1)
  have sp2 : sp ≤ 80 := by rw [← hsp]; exact Int.mul_le_mul (a := W) (b := A) (c := 20) (d := 4) W1.2 A1.2 (by omega) (by omega)
  have hmod0 : 0 ≤ now % W := Int.emod_nonneg _ (by omega)
  have hmod1 : now % W ≤ now := mod_le n1.1 W1.1
  have hMR : Hid (mayR W sp now = true) := by
    show _ = _
    have : sp % W = 0 := by rw [← hsp]; exact Int.mul_emod_right W A
    simp [mayR, this]; omega
  cases hlong : longC l
  case true =>
    have HLo := Lib.hid hlong
    clear hlong
    go_enter Try.func13, Try.ntmps13
    go_wp2_with fail
    refine (long19_calls _ l _ HL.out).mono ?_
    rintro e' w1 ⟨rfl, hb⟩
    rw [HLo.out]
    replace HL := Lib.hid (HL.out.below hb)
    replace HB := Lib.hid (HB.out.trans ((show Below _ _ _ from hb).mono HB.out.size))
    clear hb
    go_wp2_with fail
    refine (awake19_calls _).mono ?_
    rintro e' w2 ⟨rfl, hb⟩
    replace HB := Lib.hid (HB.out.trans ((show Below _ _ _ from hb).mono HB.out.size))
    clear hb
    go_wp2
    go_ret
    exact ⟨rfl, HB.out⟩
  have hlen := longC_false hlong
  have HLo := Lib.hid hlong
  clear hlong
  cases hnm : nameB key
  case false =>
    have HN := Lib.hid hnm
    clear hnm
    go_enter Try.func13, Try.ntmps13
    go_wp2_with fail
    refine (long19_calls _ l _ HL.out).mono ?_
    rintro e' w1 ⟨rfl, hb⟩
    rw [HLo.out]
    replace HL := Lib.hid (HL.out.below hb)
    replace HB := Lib.hid (HB.out.trans ((show Below _ _ _ from hb).mono HB.out.size))
    clear hb
    go_wp2_with fail
    refine (name_calls key _ hks).mono ?_
    rintro e' w1 ⟨rfl, hb⟩
    rw [HN.out]
    replace HL := Lib.hid (HL.out.below hb)
    replace HB := Lib.hid (HB.out.trans ((show Below _ _ _ from hb).mono HB.out.size))
    clear hb
    go_wp2_with fail
    refine (awake19_calls _).mono ?_
    rintro e' w2 ⟨rfl, hb⟩
    replace HB := Lib.hid (HB.out.trans ((show Below _ _ _ from hb).mono HB.out.size))
    clear hb
    go_wp2
    go_ret
    exact ⟨rfl, HB.out⟩
  have hks2 : 1 ≤ key.size ∧ key.size ≤ 24 := by
    simp only [nameB, Bool.and_eq_true, decide_eq_true_eq] at hnm
    exact hnm.1
  have HN := Lib.hid hnm
  clear hnm
  by_cases hbg : 1 ≤ now - now % W
  case neg =>
    have d1 : decide (now - now % W < 1) = true := by rw [decide_eq_true_iff]; omega
    go_enter Try.func13, Try.ntmps13
    go_wp2_with fail
    refine (long19_calls _ l _ HL.out).mono ?_
    rintro e' w1 ⟨rfl, hb⟩
    rw [HLo.out]
    replace HL := Lib.hid (HL.out.below hb)
    replace HB := Lib.hid (HB.out.trans ((show Below _ _ _ from hb).mono HB.out.size))
    clear hb
    go_wp2_with fail
    refine (name_calls key _ hks).mono ?_
    rintro e' w1 ⟨rfl, hb⟩
    rw [HN.out]
    replace HL := Lib.hid (HL.out.below hb)
    replace HB := Lib.hid (HB.out.trans ((show Below _ _ _ from hb).mono HB.out.size))
    clear hb
    go_wp2_with fail
    refine (awake19_calls _).mono ?_
    rintro e' w2 ⟨rfl, hb⟩
    replace HB := Lib.hid (HB.out.trans ((show Below _ _ _ from hb).mono HB.out.size))
    clear hb
    go_wp2
    go_ret
    exact ⟨rfl, HB.out⟩
  have d1 : decide (now - now % W < 1) = false := by rw [decide_eq_false_iff_not]; omega
  go_enter Try.func13, Try.ntmps13
  go_wp2_with fail
  refine (long19_calls _ l _ HL.out).mono ?_
  rintro e' w1 ⟨rfl, hb⟩
  rw [HLo.out]
  replace HL := Lib.hid (HL.out.below hb)
  replace HB := Lib.hid (HB.out.trans ((show Below _ _ _ from hb).mono HB.out.size))
  clear hb
  go_wp2_with fail
  refine (name_calls key _ hks).mono ?_
  rintro e' w1 ⟨rfl, hb⟩
  rw [HN.out]
  replace HL := Lib.hid (HL.out.below hb)
  replace HB := Lib.hid (HB.out.trans ((show Below _ _ _ from hb).mono HB.out.size))
  clear hb
  go_wp2_with fail
  have hw0 := HB.out.size
  refine (fill19_calls _ W l _ HL.out (by omega)).mono ?_
  rintro e' w2 ⟨p, pb, rfl, hp1, hg1, hg2, hb⟩
  rw [show min (max W 1) 1099511627776 = W by omega] at hp1
  have HP := Lib.hid hp1
  have HGE : Hid (w.heap.size ≤ p ∧ w.heap.size ≤ pb) := ⟨by omega, by omega⟩
  clear hp1 hg1 hg2 HL HLo hw0 HN
  replace HB := Lib.hid (HB.out.trans ((show Below _ _ _ from hb).mono HB.out.size))
  clear hb
  obtain ⟨a, ha⟩ : ∃ a : Add, a = ⟨key, now - now % W - 1, 1 + n⟩ := ⟨_, rfl⟩
  have hra : rightB a = true := by rw [ha]; exact rightB_mk _ _ _ (by simp [hks2.1, hks2.2]) (by omega) (by omega) (by omega) (by omega)
  obtain ⟨L, hL⟩ : ∃ L, L = risL l W sp now 0 := ⟨_, rfl⟩
  obtain ⟨M, hM⟩ : ∃ M, M = risL (l ++ [a]) W sp now 0 := ⟨_, rfl⟩
  obtain ⟨O, hO⟩ : ∃ O, O = (riseOf l W sp now key).nw := ⟨_, rfl⟩
  have hLF := (risL_facts l (by omega) W sp now 0).1
  have hMF := (risL_facts (l ++ [a]) (by rw [List.length_append, List.length_singleton]; omega) W sp now 0).1
  rw [← hL] at hLF
  rw [← hM] at hMF
  have hgr := grow_rise l a W sp now hra sp1 (by rw [ha])
  have hO0 : 0 ≤ O ∧ O ≤ 1000000000 := by
    rw [hO]
    have := rangeSum_bd l key (now - now % W - sp) (now - now % W)
    show 0 ≤ rangeSum l key (now - now % W - sp) (now - now % W) ∧ _
    exact ⟨this.1, by show rangeSum l key (now - now % W - sp) (now - now % W) ≤ _; omega⟩
  have HOF : Hid (oldOf key L = O) := by
    show _ = _
    by_cases hx : 1 ≤ O
    · have hm : riseOf l W sp now key ∈ L := (hLF _).2 ⟨hMR.out, rfl, by rw [← hO]; exact hx, by rw [← hO]; omega, rangeSum_has (f := now - now % W - sp) (e := now - now % W) (by have : O = rangeSum l key (now - now % W - sp) (now - now % W) := hO; show 0 < rangeSum l key _ _; omega)⟩
      rw [oldOf_some (key := key) hm rfl fun y hy e => by rw [((hLF y).1 hy).2.1, e], hO]
    · rw [oldOf_none fun r hr e => ?_]
      · omega
      · have h9 := (hLF r).1 hr
        rw [h9.2.1, e, ← hO] at h9
        omega
  have HM1 : Hid (∀ r ∈ M, if r.key = key then r.nw = O + 1 + n else r ∈ L) := fun r hr => by
    obtain ⟨b1, b2, b3, b4, b5, b6, b7⟩ := (hMF r).1 hr
    rw [hgr, ha] at b2
    split
    · rename_i hk
      rw [if_pos hk] at b2
      rw [b2, hk, hO]
      show (riseOf l W sp now key).nw + (1 + n) = _; omega
    · rename_i hk
      rw [if_neg hk] at b2
      exact (hLF r).2 ⟨b1, b2, b3, b4, rangeSum_has (f := now - now % W - sp) (e := now - now % W) (by have : r.nw = rangeSum l r.key (now - now % W - sp) (now - now % W) := congrArg Rz.nw b2; omega)⟩
  have HM2 : Hid (M.any (fun r => decide (r.key = key)) = true) := by
    show _ = _
    rw [List.any_eq_true]
    have e1 : (riseOf (l ++ [a]) W sp now key).nw = O + (1 + n) := by rw [hgr, ha, if_pos rfl, hO]
    refine ⟨riseOf (l ++ [a]) W sp now key, (hMF _).2 ⟨hMR.out, rfl, by rw [e1]; omega, by rw [e1]; omega, a, by simp, by rw [ha]; rfl⟩, by simp; rfl⟩
  have hLl : L.length ≤ 1000 := by
    rw [hL]; unfold risL; split
    · have := refR_len (riseOf l W sp now) 0 l [] []; simp at this; omega
    · simp
  have hMl : M.length ≤ 1000 := by
    rw [hM]; unfold risL; split
    · have := refR_len (riseOf (l ++ [a]) W sp now) 0 (l ++ [a]) [] []; simp at this; omega
    · simp
  have HLL := Lib.hid hL
  have HMM := Lib.hid hM
  have Ha := Lib.hid ha
  have Hra := Lib.hid hra
  clear hL hM hO hLF hMF hgr ha hra
  go_wp2_with fail
  refine (of_any _ l (by omega) p W _ pb sp now 0 HP.out).mono ?_
  rintro e' w3 ⟨v1, rfl, hr1, hb⟩
  rw [← HLL.out] at hr1
  replace HP := Lib.hid (HP.out.below hb)
  have HR1 := Lib.hid hr1
  clear hr1
  replace HB := Lib.hid (HB.out.trans ((show Below _ _ _ from hb).mono HB.out.size))
  clear hb
  go_wp2_with fail
  refine (add_calls _ p W _ pb _ key (now - now % W - 1) (1 + n) HP.out hks).mono ?_
  rintro e' w4 h
  obtain ⟨rfl, hfr, hpa⟩ := addMore (a := ⟨key, now - now % W - 1, 1 + n⟩) (by rw [← Ha.out]; exact Hra.out) (by omega) h
  rw [← Ha.out] at hpa
  replace HR1 := Lib.hid (rowZ_fr HR1.out HP.out hfr)
  replace HP := Lib.hid hpa
  replace HB := Lib.hid (HB.out.trans (hfr.below HB.out.size (by have := HGE.out; simp; omega)))
  clear h hfr hpa HGE
  go_wp2_with fail
  refine (of_any2 _ (l ++ [a]) (by rw [List.length_append, List.length_singleton]; omega) p W _ pb sp now 0 HP.out).mono ?_
  rintro e' w5 ⟨v2, rfl, hr2, hb⟩
  rw [← HMM.out] at hr2
  replace HR1 := Lib.hid (HR1.out.below hb)
  have HR2 := Lib.hid hr2
  clear hr2 HP
  replace HB := Lib.hid (HB.out.trans ((show Below _ _ _ from hb).mono HB.out.size))
  clear hb
  obtain ⟨so, sc, rfl, _⟩ := SliceR.shape HR1.out
  obtain ⟨to, tc, rfl, _⟩ := SliceR.shape HR2.out
  go_wp2
  go_loopg [19, 83] L.length (fun m s i wr => ∃ k : Nat, k + m = L.length ∧ i = .int .i64 k ∧ s = .int .i64 (oldOf key (L.take k)) ∧ Hid (Below w5.heap.size w5 wr))
  case atStart => exact ⟨0, by omega, rfl, rfl, Below.refl _ _⟩
  case round =>
    obtain ⟨k, hkm, rfl, rfl, HB2⟩ := hrel
    by_cases hkn : k < L.length
    · obtain ⟨b, f, d, q1, hb1, e1⟩ := CK.RowK.cell (HR1.out.below HB2.out) hkn
      cases q1
      have HTK : Hid (oldOf key (L.take (k + 1)) = if L[k].key = key then L[k].nw else oldOf key (L.take k)) := by
        show _ = _
        rw [List.take_succ_eq_append_getElem hkn, oldOf_snoc]
      obtain ⟨⟨rk, rn, ro⟩, hr⟩ : ∃ c : Rz, c = L[k] := ⟨_, rfl⟩
      rw [← hr] at e1 HTK
      have a0 : wr.cell? ⟨b, f + k * 3, none⟩ = some (.string rk) := (e1 0 (by omega)).trans rfl
      have a1 : wr.cell? ⟨b, f + k * 3 + 1, none⟩ = some (.int .i64 rn) := (e1 1 (by omega)).trans rfl
      have a2 : wr.cell? ⟨b, f + k * 3 + 2, none⟩ = some (.int .i64 ro) := (e1 2 (by omega)).trans rfl
      clear e1 hr
      by_cases hc : rk = key
      · have dc : (rk.toList == key.toList) = true := by rw [hc]; simp
        have HTE : Hid (oldOf key (L.take (k + 1)) = rn) := by show _ = _; rw [HTK.out, if_pos hc]
        clear hc
        go_wp2
        go_roundg (L.length - (k + 1))
        case measure => omega
        case rel => exact ⟨k + 1, by omega, by go_num, by rw [HTE.out], HB2.out.alloc HB2.out.size _⟩
      · have dc : (rk.toList == key.toList) = false := by rw [beq_eq_false_iff_ne]; exact fun h' => hc (ba_eq.1 h')
        have HTE : Hid (oldOf key (L.take (k + 1)) = oldOf key (L.take k)) := by show _ = _; rw [HTK.out, if_neg hc]
        clear hc
        go_wp2
        go_roundg (L.length - (k + 1))
        case measure => omega
        case rel => exact ⟨k + 1, by omega, by go_num, by rw [HTE.out], HB2.out.alloc HB2.out.size _⟩
    · obtain rfl : k = L.length := by omega
      rw [List.take_length, HOF.out]
      replace HB := Lib.hid (HB.out.trans (HB2.out.mono HB.out.size))
      replace HR1 := Lib.hid (HR1.out.below HB2.out)
      replace HR2 := Lib.hid (HR2.out.below HB2.out)
      obtain ⟨w6, hw6⟩ : ∃ x, x = wr := ⟨_, rfl⟩
      subst hw6
      clear HB2 hkn hkm
      go_wp2
      go_loopg [22, 96] M.length (fun m s i wr => ∃ k : Nat, k + m = M.length ∧ i = .int .i64 k ∧ s = .bool ((M.take k).any fun r => decide (r.key = key)) ∧ Hid (Below w6.heap.size w6 wr))
      case atStart => exact ⟨0, by omega, rfl, by simp, Below.refl _ _⟩
      case round =>
        obtain ⟨k, hkm, rfl, rfl, HB2⟩ := hrel
        by_cases hkn : k < M.length
        · obtain ⟨b, f, d, q1, hb1, e1⟩ := CK.RowK.cell (HR2.out.below HB2.out) hkn
          cases q1
          have hin := HM1.out M[k] (List.getElem_mem _)
          obtain ⟨r, hr⟩ : ∃ c : Rz, c = M[k] := ⟨_, rfl⟩
          rw [← hr] at e1 hin
          have HTK : Hid ((M.take (k + 1)).any (fun r => decide (r.key = key)) = ((M.take k).any (fun r => decide (r.key = key)) || decide (r.key = key))) := by
            show _ = _
            rw [List.take_succ_eq_append_getElem hkn, List.any_append, ← hr]; simp
          obtain ⟨rk, rn, ro⟩ := r
          have a0 : wr.cell? ⟨b, f + k * 3, none⟩ = some (.string rk) := (e1 0 (by omega)).trans rfl
          have a1 : wr.cell? ⟨b, f + k * 3 + 1, none⟩ = some (.int .i64 rn) := (e1 1 (by omega)).trans rfl
          have a2 : wr.cell? ⟨b, f + k * 3 + 2, none⟩ = some (.int .i64 ro) := (e1 2 (by omega)).trans rfl
          have hrh : b < wr.heap.size := hb1
          have BR : Hid ((wr.alloc (.cells #[.string rk, .int .i64 rn, .int .i64 ro] 35)).heap[wr.heap.size]? = some (.cells #[.string rk, .int .i64 rn, .int .i64 ro] 35 (0, 0))) := blk_new wr _
          have HB3 : Hid (Below w6.heap.size w6 (wr.alloc (.cells #[.string rk, .int .i64 rn, .int .i64 ro] 35))) := HB2.out.alloc HB2.out.size _
          obtain ⟨w7, hw7⟩ : ∃ x, x = wr := ⟨_, rfl⟩
          subst hw7
          have HIN := Lib.hid hin
          clear e1 hr hin HB2 hb1
          go_wp2
          go_loopg [25, 102] L.length (fun m s i wr => ∃ q : Nat, q + m = L.length ∧ i = .int .i64 q ∧ s = .bool ((L.take q).any fun x => decide (x = ⟨rk, rn, ro⟩)) ∧ Hid (Below w6.heap.size w6 wr) ∧ Hid (wr.heap[w7.heap.size]? = some (.cells #[.string rk, .int .i64 rn, .int .i64 ro] 35 (0, 0))))
          case atStart => exact ⟨0, by omega, rfl, by simp, HB3, BR⟩
          case round =>
            clear HB3 BR a0 a1 a2
            obtain ⟨q, hqm, rfl, rfl, HB3, BR⟩ := hrel
            obtain ⟨E, hE⟩ : ∃ E, E = (L.take q).any (fun x => decide (x = ⟨rk, rn, ro⟩)) := ⟨_, rfl⟩
            rw [← hE]
            have HE := Lib.hid hE
            clear hE
            have r0 := (blk_cell BR.out 0).trans rfl
            have r1 := (blk_cell BR.out 1).trans rfl
            have r2 := (blk_cell BR.out 2).trans rfl
            have hlt := blk_lt BR.out
            by_cases hqn : q < L.length
            · obtain ⟨b2, f2, d2, q2, hb2, e2⟩ := CK.RowK.cell (HR1.out.below HB3.out) hqn
              cases q2
              obtain ⟨y, hy⟩ : ∃ c : Rz, c = L[q] := ⟨_, rfl⟩
              rw [← hy] at e2
              have HTQ : Hid ((L.take (q + 1)).any (fun x => decide (x = ⟨rk, rn, ro⟩)) = (E || decide (y = ⟨rk, rn, ro⟩))) := by
                show _ = _
                rw [List.take_succ_eq_append_getElem hqn, List.any_append, ← hy, ← HE.out]; simp
              obtain ⟨yk, yn, yo⟩ := y
              have y0 : wr.cell? ⟨b2, f2 + q * 3, none⟩ = some (.string yk) := (e2 0 (by omega)).trans rfl
              have y1 : wr.cell? ⟨b2, f2 + q * 3 + 1, none⟩ = some (.int .i64 yn) := (e2 1 (by omega)).trans rfl
              have y2 : wr.cell? ⟨b2, f2 + q * 3 + 2, none⟩ = some (.int .i64 yo) := (e2 2 (by omega)).trans rfl
              have HBn : Hid (Below w6.heap.size w6 (wr.alloc (.cells #[.string yk, .int .i64 yn, .int .i64 yo] 35))) := HB3.out.alloc HB3.out.size _
              have BRn : Hid ((wr.alloc (.cells #[.string yk, .int .i64 yn, .int .i64 yo] 35)).heap[w7.heap.size]? = some (.cells #[.string rk, .int .i64 rn, .int .i64 ro] 35 (0, 0))) := blk_old BR.out _
              clear e2 hy hb2
              cases E
              · by_cases c0 : yk = rk
                · have d0 : (yk.toList == rk.toList) = true := by rw [c0]; simp
                  by_cases c1 : yn = rn
                  · have d1 : (yn == rn) = true := by simp [c1]
                    by_cases c2 : yo = ro
                    · have d2 : (yo == ro) = true := by simp [c2]
                      have HTE : Hid ((L.take (q + 1)).any (fun x => decide (x = ⟨rk, rn, ro⟩)) = true) := by show _ = _; rw [HTQ.out, c0, c1, c2]; simp
                      clear c0 c1 c2
                      go_wp2
                      go_roundg (L.length - (q + 1))
                      case measure => omega
                      case rel => exact ⟨q + 1, by omega, by go_num, by rw [HTE.out], HBn, BRn⟩
                    · have d2 : (yo == ro) = false := by simp [c2]
                      have HTE : Hid ((L.take (q + 1)).any (fun x => decide (x = ⟨rk, rn, ro⟩)) = false) := by show _ = _; rw [HTQ.out]; simp [c2]
                      clear c0 c1 c2
                      go_wp2
                      go_roundg (L.length - (q + 1))
                      case measure => omega
                      case rel => exact ⟨q + 1, by omega, by go_num, by rw [HTE.out], HBn, BRn⟩
                  · have d1 : (yn == rn) = false := by simp [c1]
                    have HTE : Hid ((L.take (q + 1)).any (fun x => decide (x = ⟨rk, rn, ro⟩)) = false) := by show _ = _; rw [HTQ.out]; simp [c1]
                    clear c0 c1
                    go_wp2
                    go_roundg (L.length - (q + 1))
                    case measure => omega
                    case rel => exact ⟨q + 1, by omega, by go_num, by rw [HTE.out], HBn, BRn⟩
                · have d0 : (yk.toList == rk.toList) = false := by rw [beq_eq_false_iff_ne]; exact fun h' => c0 (ba_eq.1 h')
                  have HTE : Hid ((L.take (q + 1)).any (fun x => decide (x = ⟨rk, rn, ro⟩)) = false) := by show _ = _; rw [HTQ.out]; simp [c0]
                  clear c0
                  go_wp2
                  go_roundg (L.length - (q + 1))
                  case measure => omega
                  case rel => exact ⟨q + 1, by omega, by go_num, by rw [HTE.out], HBn, BRn⟩
              · have HTE : Hid ((L.take (q + 1)).any (fun x => decide (x = ⟨rk, rn, ro⟩)) = true) := by show _ = _; rw [HTQ.out]; rfl
                go_wp2
                go_roundg (L.length - (q + 1))
                case measure => omega
                case rel => exact ⟨q + 1, by omega, by go_num, by rw [HTE.out], HBn, BRn⟩
            · obtain rfl : q = L.length := by omega
              have HEL : Hid (E = L.any (fun x => decide (x = ⟨rk, rn, ro⟩))) := by have := HE.out; rw [List.take_length] at this; exact this
              by_cases hc : rk = key
              · have dc : (rk.toList == key.toList) = true := by rw [hc]; simp
                have hrn := HIN.out
                rw [if_pos hc] at hrn
                have d3 : (rn == O + 1 + n) = true := by simp [show rn = O + 1 + n from hrn]
                have HTE : Hid ((M.take (k + 1)).any (fun r => decide (r.key = key)) = true) := by show _ = _; rw [HTK.out]; simp [hc]
                clear hc hrn
                go_wp2
                go_roundg (M.length - (k + 1))
                case measure => omega
                case rel => exact ⟨k + 1, by omega, by go_num, by rw [HTE.out], HB3⟩
              · have dc : (rk.toList == key.toList) = false := by rw [beq_eq_false_iff_ne]; exact fun h' => hc (ba_eq.1 h')
                have hin := HIN.out
                rw [if_neg hc] at hin
                have hE1 : E = true := by rw [HEL.out, List.any_eq_true]; exact ⟨_, hin, by simp⟩
                have HTE : Hid ((M.take (k + 1)).any (fun r => decide (r.key = key)) = (M.take k).any (fun r => decide (r.key = key))) := by show _ = _; rw [HTK.out]; simp [hc]
                subst hE1
                clear hc hin
                go_wp2
                go_roundg (M.length - (k + 1))
                case measure => omega
                case rel => exact ⟨k + 1, by omega, by go_num, by rw [HTE.out], HB3⟩
        · obtain rfl : k = M.length := by omega
          rw [List.take_length, HM2.out]
          replace HB := Lib.hid (HB.out.trans (HB2.out.mono HB.out.size))
          clear HB2
          go_wp2_with fail
          refine (awake19_calls _).mono ?_
          rintro e' w2 ⟨rfl, hb⟩
          replace HB := Lib.hid (HB.out.trans ((show Below _ _ _ from hb).mono HB.out.size))
          clear hb
          go_wp2
          go_ret
          exact ⟨rfl, HB.out⟩
end Go.Proofs.Ytmddlbgdmdepdaa
