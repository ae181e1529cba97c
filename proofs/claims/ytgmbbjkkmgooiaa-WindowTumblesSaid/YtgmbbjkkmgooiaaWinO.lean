/- WindowTumbles: the law's function returns true, by a walk. No condition. -/
import Derived.Test.YtgmbbjkkmgooiaaWinN
import Derived.OpenShut
set_option linter.unusedVariables false
set_option linter.unusedSimpArgs false
namespace Go.Proofs.Ytgmbbjkkmgooiaa
open Go.Maps Go.MapKept Go.RowKit Go.ChangeMaps CK Go.Proofs.YtgmbbjkkmgooiaaW.PrintLast

theorem cntE_one {sz x : Int} (h : 1 ≤ sz) : cntE sz sz x = 1 := by
  unfold cntE; rw [show x + sz = x + 1 * sz by omega, Int.add_mul_ediv_right _ _ (by omega)]; omega
theorem cntE_two {sz hp x : Int} (h : 1 ≤ hp) (h2 : sz = 2 * hp) : cntE sz hp x = 2 := by
  unfold cntE; rw [h2, Int.add_mul_ediv_right _ _ (by omega)]; omega
theorem wantS_twice (l : List Add) (key : ByteArray) : wantS l key (fun _ => 2) = 2 * wantS l key (fun _ => 1) := by
  refine snoc_ind (p := fun l => wantS l key (fun _ => 2) = 2 * wantS l key (fun _ => 1)) (by simp [wantS]) (fun l a ih => ?_) l
  rw [wantS_snoc, wantS_snoc, ih]
  split <;> omega
theorem ends_in {hp : Int} {q : Nat} (h : 1 ≤ hp) (hq2 : ∀ i : Nat, i < q → hp + (i : Int) * hp ≤ 2199023255552) : ∀ i (h : i < (abvI hp hp q).length), endB hp (abvI hp hp q)[i] = true := fun i hi => by
  rw [abvI_len] at hi
  have h2 := hq2 i hi
  rw [abvI_get]
  have h5 : 0 ≤ (i : Int) * hp := Int.mul_nonneg (by omega) (by omega)
  have h6 : (hp + (i : Int) * hp) % hp = 0 := by rw [Int.add_mul_emod_self_right, Int.emod_self]
  simp [endB, h6]; omega

set_option maxHeartbeats 2000000 in
theorem law_tumbles (n : Int) (l : List Add) (v : Value) (key : ByteArray) (t : Int) (w : World) (h0 : (Lit.int .u8 n).wf = true) (hl : AddsAt w l v) (hk : key.size ≤ 140737488351232) (h1 : (Lit.int .u8 t).wf = true) :
    Calls Try.prog 8 #[.int .u8 n, v, .string key, .int .u8 t] w (BoolPost w true) := by
  have n1 := bounds_u8 h0
  have t1 := bounds_u8 h1
  clear h0 h1
  have HL := Lib.hid hl
  have HB := Lib.hid (Below.refl w.heap.size w)
  clear hl
  obtain ⟨W, hW⟩ : ∃ W, 1 + n % 20 = W := ⟨_, rfl⟩
  obtain ⟨T, hT⟩ : ∃ W, 1 + t % 5 = W := ⟨_, rfl⟩
  have W1 : 1 ≤ W ∧ W ≤ 20 := by omega
  have T1 : 1 ≤ T ∧ T ≤ 5 := by omega
  obtain ⟨hp, hhp⟩ : ∃ hp, hp = W * T := ⟨_, rfl⟩
  have hp1 : 1 ≤ hp := by rw [hhp]; exact Int.le_trans W1.1 (Int.le_mul_of_pos_right' W T W1.1 T1.1)
  have hp2 : hp ≤ 100 := by rw [hhp]; exact Int.mul_le_mul (a := W) (b := T) (c := 20) (d := 5) W1.2 T1.2 (by omega) (by omega)
  obtain ⟨sz, hsz⟩ : ∃ sz, sz = 2 * hp := ⟨_, rfl⟩
  have hw0 : 2 * W * T = sz := by rw [hsz, hhp, Int.mul_assoc]
  have hwz : wrap64 (2 * W * T) = sz := by rw [hw0]; unfold wrap64; omega
  have hd : sz / 2 = hp := by omega
  have hm1 : hp % W = 0 := by rw [hhp, Int.mul_emod_right]
  have hm2 : sz % W = 0 := by rw [← hw0, Int.mul_assoc, Int.mul_comm W T, ← Int.mul_assoc, Int.mul_emod_left]
  have e1 : (sz - 1) / sz = 0 := Int.ediv_eq_zero_of_lt (by omega) (by omega)
  have e2 : (sz - 1) / hp < 2 := by rw [Int.ediv_lt_iff_lt_mul (by omega)]; omega
  have HMW : Hid (mayB sz sz W = true) := by show _ = _; simp [mayB, fitsB, hm2, e1]; omega
  have HMH : Hid (mayB sz hp W = true) := by show _ = _; simp [mayB, fitsB, hm1, hm2]; omega
  have HMW1 : Hid (mayB sz sz 1 = true) := by show _ = _; simp [mayB, fitsB, e1]; omega
  have HMH1 : Hid (mayB sz hp 1 = true) := by show _ = _; simp [mayB, fitsB]; omega
  have sz1 : 2 ≤ sz ∧ sz ≤ 200 := by omega
  have HSZ := Lib.hid hsz
  clear e1 e2 hm1 hm2 hw0 hhp hsz
  cases hlong : longB l
  case true =>
    have HLo := Lib.hid hlong
    clear hlong
    go_enter Try.func8, Try.ntmps8
    go_wp2_with fail
    refine (long_calls _ l _ HL.out).mono ?_
    rintro e' w1 ⟨rfl, hb⟩
    rw [HLo.out]
    have HL := Lib.hid (HL.out.below hb)
    have HB := Lib.hid (HB.out.trans ((show Below _ _ _ from hb).mono HB.out.size))
    skip
    clear hb
    go_wp2_with fail
    refine (awake_calls _).mono ?_
    rintro e' w9 ⟨rfl, hb⟩
    have HB := Lib.hid (HB.out.trans ((show Below _ _ _ from hb).mono HB.out.size))
    skip
    clear hb
    go_wp2
    go_ret
    exact ⟨rfl, HB.out⟩
  have hlen := longB_false hlong
  have HLo := Lib.hid hlong
  clear hlong
  by_cases hks : 60 < key.size
  · skip
    go_enter Try.func8, Try.ntmps8
    go_wp2_with fail
    refine (long_calls _ l _ HL.out).mono ?_
    rintro e' w1 ⟨rfl, hb⟩
    rw [HLo.out]
    have HL := Lib.hid (HL.out.below hb)
    have HB := Lib.hid (HB.out.trans ((show Below _ _ _ from hb).mono HB.out.size))
    skip
    clear hb
    go_wp2_with fail
    refine (awake_calls _).mono ?_
    rintro e' w9 ⟨rfl, hb⟩
    have HB := Lib.hid (HB.out.trans ((show Below _ _ _ from hb).mono HB.out.size))
    skip
    clear hb
    go_wp2
    go_ret
    exact ⟨rfl, HB.out⟩
  go_enter Try.func8, Try.ntmps8
  go_wp2_with fail
  refine (long_calls _ l _ HL.out).mono ?_
  rintro e' w1 ⟨rfl, hb⟩
  rw [HLo.out]
  have HL := Lib.hid (HL.out.below hb)
  have HB := Lib.hid (HB.out.trans ((show Below _ _ _ from hb).mono HB.out.size))
  skip
  clear hb
  go_wp2_with fail
  refine (fill_calls _ W l _ HL.out hlen).mono ?_
  rintro e' w3 ⟨p, pb, rfl, hp1, _, _, hb⟩
  rw [show min (max W 1) 1099511627776 = W by omega] at hp1
  have HP := Lib.hid hp1
  have HL := Lib.hid (HL.out.below hb)
  clear hp1
  have HB := Lib.hid (HB.out.trans ((show Below _ _ _ from hb).mono HB.out.size))
  skip
  clear hb
  obtain ⟨so, scap, rfl, hmx⟩ := SliceR.shape HL.out
  go_wp2
  go_loopg [12, 49] l.length (fun m wa i wr => ∃ k : Nat, k + m = l.length ∧ i = .int .i64 k ∧ wa = .int .i64 (wantS (l.take k) key (fun _ => 1)) ∧ Hid (Below w.heap.size w wr) ∧ Hid (PanesAt wr p W (cntOf l) pb (sumsOf W l)) ∧ Hid (AddsAt wr l (.slice so l.length scap)) ∧ Hid (∀ i (h : i < l.length), i < k → l[i].at_ ≤ 2000))
  case atStart => exact ⟨0, by omega, rfl, by simp [wantS], HB, HP, HL, fun i hi h => by omega⟩
  case round =>
    clear HB HP HL
    obtain ⟨k, hkm, rfl, rfl, HB, HP, HL, HA⟩ := hrel
    have wb := wantS_bd (l.take k) key (fun _ => 1) 1 (fun x _ hr => by omega) (by omega)
    have tl : ((l.take k).length : Int) ≤ 60 := by have := List.length_take_le k l; omega
    obtain ⟨WA, hWA⟩ : ∃ WA, WA = wantS (l.take k) key (fun _ => 1) := ⟨_, rfl⟩
    rw [← hWA]
    rw [← hWA] at wb
    have HWA := Lib.hid hWA
    obtain ⟨wb1, wb2⟩ := wb
    clear hWA
    by_cases hkn : k < l.length
    · obtain ⟨b, off, cap, heq, hblt, hok, e0, e1, e2⟩ := adds_cell HL.out hkn
      cases heq
      obtain ⟨a, ha⟩ : ∃ a, a = l[k] := ⟨_, rfl⟩
      rw [← ha] at e0 e1 e2 hok
      have HTK : Hid (l.take (k + 1) = l.take k ++ [a]) := by rw [ha]; exact List.take_succ_eq_append_getElem hkn
      have HA' : Hid (a.at_ ≤ 2000 → ∀ i (h : i < l.length), i < k + 1 → l[i].at_ ≤ 2000) := fun h1 i hi hik => by
        rcases Nat.lt_or_ge i k with h | h
        · exact HA.out i hi h
        · obtain rfl : i = k := by omega
          rw [← ha]; exact h1
      have HBA : Hid ((wr.alloc (.cells #[.string a.key, .int .i64 a.at_, .int .i64 a.n] 42)).heap[wr.heap.size]? = some (.cells #[.string a.key, .int .i64 a.at_, .int .i64 a.n] 42 (0, 0))) := blk_new wr _
      have HBr : Hid (Below wr.heap.size wr (wr.alloc (.cells #[.string a.key, .int .i64 a.at_, .int .i64 a.n] 42))) := (Below.refl _ wr).alloc (Nat.le_refl _) _
      clear ha hok
      by_cases hat : 2000 < a.at_
      · go_wp2_with fail
        have HB := Lib.hid (HB.out.trans (HBr.out.mono HB.out.size))
        clear e0 e1 e2
        refine (awake_calls _).mono ?_
        rintro e' w9 ⟨rfl, hb⟩
        have HB := Lib.hid (HB.out.trans ((show Below _ _ _ from hb).mono HB.out.size))
        skip
        clear hb
        go_wp2
        go_ret
        exact ⟨rfl, HB.out⟩
      · go_wp2_with fail
        clear e0 e1 e2
        refine (right_calls _ a).mono ?_
        rintro e' w6 ⟨rfl, hb⟩
        have hbr := HBr.out.trans ((show Below _ _ _ from hb).mono HBr.out.size)
        have HBA := Lib.hid (blk_below HBA.out hb (blk_lt HBA.out))
        have HBr := Lib.hid hbr
        have HP := Lib.hid (HP.out.below hbr)
        have HL := Lib.hid (HL.out.below hbr)
        have HB := Lib.hid (HB.out.trans (hbr.mono HB.out.size))
        clear hb hbr
        have k0 : w6.cell? ⟨wr.heap.size, 0, none⟩ = some (.string a.key) := blk_cell HBA.out 0
        have k2 : w6.cell? ⟨wr.heap.size, 2, none⟩ = some (.int .i64 a.n) := blk_cell HBA.out 2
        cases hr : rightB a
        · have HR := Lib.hid hr
          clear hr
          go_wp2
          go_roundg (l.length - (k + 1))
          case measure => omega
          case rel =>
            refine ⟨k + 1, by omega, by go_num, ?_, HB, HP, HL, HA'.out (by omega)⟩
            rw [HTK.out, wantS_snoc, HR.out, HWA.out]; simp
        · have HR := Lib.hid hr
          have hr' := hr
          simp only [rightB, Bool.and_eq_true, decide_eq_true_eq] at hr'
          obtain ⟨⟨⟨⟨⟨_, _⟩, r1⟩, r2⟩, r3⟩, r4⟩ := hr'
          clear hr
          by_cases hkey : a.key = key
          · have hkb : (a.key.toList == key.toList) = true := by rw [hkey]; simp
            have HKE := Lib.hid hkey
            clear hkey
            go_wp2
            go_roundg (l.length - (k + 1))
            case measure => omega
            case rel =>
              have hcond : (rightB a && decide (a.key = key)) = true := by rw [HR.out, HKE.out]; simp
              refine ⟨k + 1, by omega, by go_num, ?_, HB, HP, HL, HA'.out (by omega)⟩
              rw [HTK.out, wantS_snoc, if_pos hcond, HWA.out, Int.mul_one]
          · have hkb : (a.key.toList == key.toList) = false := by rw [beq_eq_false_iff_ne]; exact fun h => hkey (ba_eq.1 h)
            have hcond : (rightB a && decide (a.key = key)) = false := by simp [hkey]
            have HCN := Lib.hid hcond
            clear hkey hcond
            go_wp2
            go_roundg (l.length - (k + 1))
            case measure => omega
            case rel =>
              refine ⟨k + 1, by omega, by go_num, ?_, HB, HP, HL, HA'.out (by omega)⟩
              rw [HTK.out, wantS_snoc, HCN.out, HWA.out]; simp
    · obtain rfl : k = l.length := by omega
      have HA2 : Hid (∀ a ∈ l, a.at_ ≤ 2000) := fun a ha => take_mem_le HA.out a (by rw [List.take_length]; exact ha)
      have HWA : Hid (WA = wantS l key (fun _ => 1)) := by have := HWA.out; rw [List.take_length] at this; exact this
      clear HA
      obtain ⟨wz, hwz0⟩ : ∃ wz, wz = wr := ⟨_, rfl⟩
      subst hwz0
      have wb := wantS_bd l key (fun _ => 1) 1 (fun x _ hr => by omega) (by omega)
      rw [← HWA.out] at wb
      obtain ⟨wb3, wb4⟩ := wb
      have hmw : wrap64 (2000 + sz) = 2000 + sz := by unfold wrap64; omega
      have HBn : Hid (Below w.heap.size w ((wz.alloc (.cells #[.int .i64 sz, .int .i64 sz] 23)).alloc (.cells #[.int .i64 sz, .int .i64 hp] 23))) := (HB.out.alloc HB.out.size _).alloc (by have := HB.out.size; simp; omega) _
      have HPn : Hid (PanesAt ((wz.alloc (.cells #[.int .i64 sz, .int .i64 sz] 23)).alloc (.cells #[.int .i64 sz, .int .i64 hp] 23)) p W (cntOf l) pb (sumsOf W l)) := HP.out.below (((Below.refl _ wz).alloc (Nat.le_refl _) _).alloc (by simp) _)
      have B1 : Hid (((wz.alloc (.cells #[.int .i64 sz, .int .i64 sz] 23)).alloc (.cells #[.int .i64 sz, .int .i64 hp] 23)).heap[wz.heap.size]? = some (.cells #[.int .i64 sz, .int .i64 sz] 23 (0, 0))) := blk_below (blk_new wz _) ((Below.refl _ _).alloc (Nat.le_refl _) _) (by simp)
      have B2 : Hid (((wz.alloc (.cells #[.int .i64 sz, .int .i64 sz] 23)).alloc (.cells #[.int .i64 sz, .int .i64 hp] 23)).heap[wz.heap.size + 1]? = some (.cells #[.int .i64 sz, .int .i64 hp] 23 (0, 0))) := Lib.hid (by rw [show wz.heap.size + 1 = (wz.alloc (.cells #[.int .i64 sz, .int .i64 sz] 23)).heap.size by simp]; exact blk_new _ _)
      have HW2 : Hid (wantS l key (fun _ => 2) = 2 * WA) := by have := wantS_twice l key; rw [← HWA.out] at this; exact this
      have HB := HBn
      have HP := HPn
      clear HL tl wb2 wb1
      go_wp2_with fail
      refine (ends_any _ sz sz 0 (2000 + sz)).mono ?_
      rintro e' w7 ⟨el, ev, rfl, hi, he, hb⟩
      have HI := Lib.hid hi
      obtain ⟨q, hq, hq1, hq2, hq3⟩ := ends_zero HMW1.out (by omega) he
      have HP := Lib.hid (HP.out.below hb)
      have B1 := Lib.hid (blk_below B1.out hb (blk_lt B1.out))
      have B2 := Lib.hid (blk_below B2.out hb (blk_lt B2.out))
      have HB := Lib.hid (HB.out.trans ((show Below _ _ _ from hb).mono HB.out.size))
      skip
      clear hb
      clear hi he
      obtain ⟨eo, ecap, rfl, hmx2⟩ := SliceR.shape HI.out
      have hel : el.length = q := by rw [hq, abvI_len]
      have HG1 : Hid (gotS l sz key el = wantS l key (fun _ => 1)) := by
        have h4 := HSZ.out
        have h5 : (2000 + sz) / sz ≤ q := by
          have : (2000 + sz) / sz < 2003 := by rw [Int.ediv_lt_iff_lt_mul (by omega)]; omega
          omega
        have h6 : gotS l sz key el = wantS l key (cntE sz sz) := by
          rw [hq]
          refine got_want l sz sz key q (by omega) (by omega) fun a ha hr hk' => ?_
          have := HA2.out a ha
          have : (a.at_ + sz) / sz ≤ (2000 + sz) / sz := Int.ediv_le_ediv (by omega) (by omega)
          omega
        exact h6.trans (congrArg (wantS l key) (funext fun x => cntE_one (by omega)))
      have HEB : Hid (∀ i (h : i < el.length), endB sz el[i] = true) := by rw [hq]; exact ends_in (by omega) hq2
      have hel4 : el.length ≤ 4096 := by omega
      clear hq hq2 hq3 hel hq1
      go_wp2
      go_loopg [17, 82] el.length (fun m g i wr => ∃ k : Nat, k + m = el.length ∧ i = .int .i64 k ∧ g = .int .i64 (gotS l sz key (el.take k)) ∧ Hid (Below w.heap.size w wr) ∧ Hid (wr.heap[wz.heap.size]? = some (.cells #[.int .i64 sz, .int .i64 sz] 23 (0, 0))) ∧ Hid (wr.heap[wz.heap.size + 1]? = some (.cells #[.int .i64 sz, .int .i64 hp] 23 (0, 0))) ∧ Hid (PanesAt wr p W (cntOf l) pb (sumsOf W l)) ∧ Hid (IntsAt wr el (.slice eo el.length ecap)))
      case atStart => exact ⟨0, by omega, rfl, by simp [gotS], HB, B1, B2, HP, HI⟩
      case round =>
        clear HB B1 B2 HP HI
        obtain ⟨k, hkm, rfl, rfl, HB, B1, B2, HP, HI⟩ := hrel
        have gb := gotS_bd l sz key (el.take k) hlen
        have tl : ((el.take k).length : Int) ≤ 4096 := by have := List.length_take_le k el; omega
        obtain ⟨GO1, hGO⟩ : ∃ GO, GO = gotS l sz key (el.take k) := ⟨_, rfl⟩
        rw [← hGO]
        rw [← hGO] at gb
        have HGO := Lib.hid hGO
        obtain ⟨gb1, gb2⟩ := gb
        clear hGO
        by_cases hkn : k < el.length
        · obtain ⟨b, off, cap, heq, hblt, e0⟩ := ints_cell HI.out hkn
          cases heq
          have HE0 := Lib.hid (HEB.out k hkn)
          have HTK : Hid (el.take (k + 1) = el.take k ++ [el[k]]) := List.take_succ_eq_append_getElem hkn
          obtain ⟨x, hx⟩ : ∃ x, x = el[k] := ⟨_, rfl⟩
          rw [← hx] at e0 HE0 HTK
          clear hx
          have c0 := (blk_cell B1.out 0).trans rfl
          have c1 := (blk_cell B1.out 1).trans rfl
          go_wp2_with fail
          refine (at_calls _ sz sz x key p W _ pb _ HP.out).mono ?_
          rintro e' w8 ⟨rfl, hb⟩
          rw [at_plain, if_pos (by rw [HMW.out, HE0.out]; rfl)]
          have ab := atSum_bd l sz x key
          obtain ⟨A, hA⟩ : ∃ A, A = atSum l sz x key := ⟨_, rfl⟩
          rw [← hA]
          rw [← hA] at ab
          have HA := Lib.hid hA
          obtain ⟨ab1, ab2⟩ := ab
          have HP := Lib.hid (HP.out.below hb)
          have HI := Lib.hid (HI.out.below hb)
          have B1 := Lib.hid (blk_below B1.out hb (blk_lt B1.out))
          have B2 := Lib.hid (blk_below B2.out hb (blk_lt B2.out))
          have HB := Lib.hid (HB.out.trans ((show Below _ _ _ from hb).mono HB.out.size))
          skip
          clear hb
          clear c0 c1 e0 hA
          go_wp2
          go_roundg (el.length - (k + 1))
          case measure => omega
          case rel =>
            refine ⟨k + 1, by omega, by go_num, ?_, HB, B1, B2, HP, HI⟩
            rw [HTK.out, gotS_snoc, HGO.out, HA.out]
        · obtain rfl : k = el.length := by omega
          have hgo : GO1 = wantS l key (fun _ => 1) := by have := HGO.out; rw [List.take_length, HG1.out] at this; exact this
          have hg1 := Lib.hid hgo
          clear hgo HGO HEB HG1 gb2 tl
          skip
          have c0 := (blk_cell B2.out 0).trans rfl
          have c1 := (blk_cell B2.out 1).trans rfl
          go_wp2_with fail
          clear c0 c1
          refine (ends_any _ sz hp 0 (2000 + sz)).mono ?_
          rintro e' w7 ⟨el, ev, rfl, hi, he, hb⟩
          have HI := Lib.hid hi
          obtain ⟨q, hq, hq1, hq2, hq3⟩ := ends_zero HMH1.out (by omega) he
          have HP := Lib.hid (HP.out.below hb)
          have B1 := Lib.hid (blk_below B1.out hb (blk_lt B1.out))
          have B2 := Lib.hid (blk_below B2.out hb (blk_lt B2.out))
          have HB := Lib.hid (HB.out.trans ((show Below _ _ _ from hb).mono HB.out.size))
          skip
          clear hb
          clear hi he
          obtain ⟨eo, ecap, rfl, hmx2⟩ := SliceR.shape HI.out
          have hel : el.length = q := by rw [hq, abvI_len]
          have HG2 : Hid (gotS l sz key el = wantS l key (fun _ => 2)) := by
            have h4 := HSZ.out
            have h5 : (2000 + sz) / hp ≤ q := by
              have : (2000 + sz) / hp < 2003 := by rw [Int.ediv_lt_iff_lt_mul (by omega)]; omega
              omega
            have h6 : gotS l sz key el = wantS l key (cntE sz hp) := by
              rw [hq]
              refine got_want l sz hp key q (by omega) (by omega) fun a ha hr hk' => ?_
              have := HA2.out a ha
              have : (a.at_ + sz) / hp ≤ (2000 + sz) / hp := Int.ediv_le_ediv (by omega) (by omega)
              omega
            exact h6.trans (congrArg (wantS l key) (funext fun x => cntE_two (by omega) h4))
          have HEB : Hid (∀ i (h : i < el.length), endB hp el[i] = true) := by rw [hq]; exact ends_in (by omega) hq2
          have hel4 : el.length ≤ 4096 := by omega
          clear hq hq2 hq3 hel hq1
          go_wp2
          go_loopg [18, 99] el.length (fun m g i wr => ∃ k : Nat, k + m = el.length ∧ i = .int .i64 k ∧ g = .int .i64 (gotS l sz key (el.take k)) ∧ Hid (Below w.heap.size w wr) ∧ Hid (wr.heap[wz.heap.size]? = some (.cells #[.int .i64 sz, .int .i64 sz] 23 (0, 0))) ∧ Hid (wr.heap[wz.heap.size + 1]? = some (.cells #[.int .i64 sz, .int .i64 hp] 23 (0, 0))) ∧ Hid (PanesAt wr p W (cntOf l) pb (sumsOf W l)) ∧ Hid (IntsAt wr el (.slice eo el.length ecap)))
          case atStart => exact ⟨0, by omega, rfl, by simp [gotS], HB, B1, B2, HP, HI⟩
          case round =>
            clear HB B1 B2 HP HI
            obtain ⟨k, hkm, rfl, rfl, HB, B1, B2, HP, HI⟩ := hrel
            have gb := gotS_bd l sz key (el.take k) hlen
            have tl : ((el.take k).length : Int) ≤ 4096 := by have := List.length_take_le k el; omega
            obtain ⟨GO2, hGO⟩ : ∃ GO, GO = gotS l sz key (el.take k) := ⟨_, rfl⟩
            rw [← hGO]
            rw [← hGO] at gb
            have HGO := Lib.hid hGO
            obtain ⟨gb1, gb2⟩ := gb
            clear hGO
            by_cases hkn : k < el.length
            · obtain ⟨b, off, cap, heq, hblt, e0⟩ := ints_cell HI.out hkn
              cases heq
              have HE0 := Lib.hid (HEB.out k hkn)
              have HTK : Hid (el.take (k + 1) = el.take k ++ [el[k]]) := List.take_succ_eq_append_getElem hkn
              obtain ⟨x, hx⟩ : ∃ x, x = el[k] := ⟨_, rfl⟩
              rw [← hx] at e0 HE0 HTK
              clear hx
              have c0 := (blk_cell B2.out 0).trans rfl
              have c1 := (blk_cell B2.out 1).trans rfl
              go_wp2_with fail
              refine (at_calls _ sz hp x key p W _ pb _ HP.out).mono ?_
              rintro e' w8 ⟨rfl, hb⟩
              rw [at_plain, if_pos (by rw [HMH.out, HE0.out]; rfl)]
              have ab := atSum_bd l sz x key
              obtain ⟨A, hA⟩ : ∃ A, A = atSum l sz x key := ⟨_, rfl⟩
              rw [← hA]
              rw [← hA] at ab
              have HA := Lib.hid hA
              obtain ⟨ab1, ab2⟩ := ab
              have HP := Lib.hid (HP.out.below hb)
              have HI := Lib.hid (HI.out.below hb)
              have B1 := Lib.hid (blk_below B1.out hb (blk_lt B1.out))
              have B2 := Lib.hid (blk_below B2.out hb (blk_lt B2.out))
              have HB := Lib.hid (HB.out.trans ((show Below _ _ _ from hb).mono HB.out.size))
              skip
              clear hb
              clear c0 c1 e0 hA
              go_wp2
              go_roundg (el.length - (k + 1))
              case measure => omega
              case rel =>
                refine ⟨k + 1, by omega, by go_num, ?_, HB, B1, B2, HP, HI⟩
                rw [HTK.out, gotS_snoc, HGO.out, HA.out]
            · obtain rfl : k = el.length := by omega
              have hgo : GO2 = wantS l key (fun _ => 2) := by have := HGO.out; rw [List.take_length, HG2.out] at this; exact this
              have hg2 := Lib.hid hgo
              clear hgo HGO HEB HG2 gb2 tl
              skip
              have f1 : (GO1 == WA) = true := by rw [hg1.out, HWA.out]; simp
              have f2 : (GO2 == 2 * WA) = true := by rw [hg2.out, HW2.out]; simp
              go_wp2_with fail
              refine (awake_calls _).mono ?_
              rintro e' w9 ⟨rfl, hb⟩
              have HB := Lib.hid (HB.out.trans ((show Below _ _ _ from hb).mono HB.out.size))
              skip
              clear hb
              go_wp2
              go_ret
              exact ⟨rfl, HB.out⟩
end Go.Proofs.Ytgmbbjkkmgooiaa
