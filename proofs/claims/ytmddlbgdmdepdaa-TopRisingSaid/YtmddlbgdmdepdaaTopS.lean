/- TopRising: the law's function returns true, by a walk. No condition. -/
import Derived.Test.YtmddlbgdmdepdaaRiV
import Derived.Test.YtmddlbgdmdepdaaTopR
set_option linter.unusedVariables false
set_option linter.unusedSimpArgs false
set_option maxRecDepth 100000
namespace Go.Proofs.Ytmddlbgdmdepdaa
open Go.Maps Go.MapKept Go.RowKit Go.ChangeMaps Go.Shelf CK Go.Proofs.YtmddlbgdmdepdaaW.PrintLast

theorem psum_b {l : List Add} {W : Int} (hW : 1 ≤ W) {a b : Int} (ha : a % W = 0) (hb : b % W = 0) (k : ByteArray) : psum (sumsOf W l) k (a / W) (b / W) = rangeSum l k a b := psum_sums W hW l k a b ha hb
theorem intGood : ∀ W : World, (zeroValue 3).run Try.prog W = .ok (.int .i64 0) W := fun _ => by kernel_rfl
/-- how often each rise was told: once -/
def toldM (l : List Rz) : List (ByteArray × Int) := l.map fun r => (r.key, 1)
theorem toldM_none {l : List Rz} {k : ByteArray} (h : ∀ x ∈ l, x.key ≠ k) : lookA (toldM l) k = none := lookA_none fun p hp => by
  obtain ⟨x, hx, rfl⟩ := List.mem_map.1 hp
  exact h x hx
theorem toldM_some {l : List Rz} {r : Rz} (h : r ∈ l) : lookA (toldM l) r.key = some 1 := by
  unfold lookA
  cases hf : (toldM l).find? (fun p => decide (p.1 = r.key)) with
  | none =>
    rw [List.find?_eq_none] at hf
    have := hf (r.key, 1) (List.mem_map.2 ⟨r, h, rfl⟩)
    simp at this
  | some p =>
    obtain ⟨x, _, rfl⟩ := List.mem_map.1 (List.mem_of_find?_eq_some hf)
    rfl
theorem toldM_put {l : List Rz} {r : Rz} (h : ∀ x ∈ l, x.key ≠ r.key) : putA (toldM l) r.key 1 = toldM (l ++ [r]) := by
  unfold putA
  have : (toldM l).any (fun p => decide (p.1 = r.key)) = false := by
    rw [List.any_eq_false]
    intro p hp
    obtain ⟨x, hx, rfl⟩ := List.mem_map.1 hp
    simpa using h x hx
  rw [this, if_neg (by simp), toldM, toldM, List.map_append]; rfl
theorem told_run {w : World} {b : Nat} {m : List (ByteArray × Int)} (h : MapT Try.prog 9 Value.string (Value.int .i64) w b m) {k : ByteArray} (hk : k.size ≤ maxLen) {o : Int} (ho : ((lookA m k).map (Value.int .i64)).getD (.int .i64 0) = .int .i64 o) :
    (Instr.lookup 28 (.map (some b)) (.string k) false).run Try.prog w = .ok (.int .i64 o) w := by
  have := h.lookup strKeyed str_inj Try.underlying28 (intGood w) (strGood k hk) false
  rw [if_neg (by simp), ho] at this
  exact this
set_option maxHeartbeats 4000000 in
theorem law_topRising (l : List TAdd) (v : Value) (x t now fl : Int) (w : World) (hl : TAddsAt w l v) (h0 : (Lit.int .u8 x).wf = true) (h1 : (Lit.int .u8 t).wf = true) (h2 : (Lit.int .u16 now).wf = true) (h3 : (Lit.int .u8 fl).wf = true) :
    Calls Try.prog 3 #[v, .int .u8 x, .int .u8 t, .int .u16 now, .int .u8 fl] w (BoolPost w true) := by
  have x1 := bounds_u8 h0
  have t1 := bounds_u8 h1
  have n1 := bounds_u16 h2
  have f1 := bounds_u8 h3
  clear h0 h1 h2 h3
  have HL := Lib.hid hl
  have HLw := Lib.hid hl
  have HB : Hid (Below w.heap.size w w) := Below.refl _ _
  clear hl
  obtain ⟨W, hW⟩ : ∃ W, 1 + x % 20 = W := ⟨_, rfl⟩
  obtain ⟨A, hA⟩ : ∃ A, 1 + t % 5 = A := ⟨_, rfl⟩
  have W1 : 1 ≤ W ∧ W ≤ 20 := by omega
  have A1 : 1 ≤ A ∧ A ≤ 5 := by omega
  obtain ⟨sp, hsp⟩ : ∃ sp, W * A = sp := ⟨_, rfl⟩
  have sp1 : 1 ≤ sp := by rw [← hsp]; exact Int.le_trans W1.1 (Int.le_mul_of_pos_right' W A W1.1 A1.1)
  have sp2 : sp ≤ 100 := by rw [← hsp]; exact Int.mul_le_mul (a := W) (b := A) (c := 20) (d := 5) W1.2 A1.2 (by omega) (by omega)
  have spm : sp % W = 0 := by rw [← hsp]; exact Int.mul_emod_right W A
  have hMR : Hid (mayR W sp now = true) := by show _ = _; simp [mayR, spm]; omega
  have hmod0 : 0 ≤ now % W := Int.emod_nonneg _ (by omega)
  have hmod1 : now % W ≤ now := mod_le n1.1 W1.1
  have hend : now / W * W = now - now % W := by have := Int.emod_add_mul_ediv now W; rw [Int.mul_comm] at this; omega
  cases hf : fewB l
  case false =>
    have HF := Lib.hid hf
    clear hf hend spm
    go_enter Try.func3, Try.ntmps3
    go_wp2_with fail
    refine (counts_calls _).mono ?_
    rintro e' w1 ⟨rfl, hb⟩
    replace HL := Lib.hid (HL.out.below hb)
    replace HB := Lib.hid (HB.out.trans ((show Below _ _ _ from hb).mono HB.out.size))
    clear hb
    go_wp2_with fail
    refine (few_calls _ l _ HL.out).mono ?_
    rintro e' w2 ⟨rfl, hb⟩
    rw [HF.out]
    replace HL := Lib.hid (HL.out.below hb)
    replace HB := Lib.hid (HB.out.trans ((show Below _ _ _ from hb).mono HB.out.size))
    clear hb
    go_wp2_with fail
    refine (counts_calls _).mono ?_
    rintro e' w1 ⟨rfl, hb⟩
    replace HL := Lib.hid (HL.out.below hb)
    replace HB := Lib.hid (HB.out.trans ((show Below _ _ _ from hb).mono HB.out.size))
    clear hb
    go_wp2_with fail
    go_ret
    exact ⟨rfl, HB.out⟩
  have hf' := hf
  simp only [fewB, Bool.and_eq_true, decide_eq_true_eq, List.all_eq_true] at hf'
  obtain ⟨hf1, hlen⟩ := hf'
  have HF1 := Lib.hid hf1
  have HF := Lib.hid hf
  clear hf hf1
  obtain ⟨b0, hb0⟩ : ∃ b0, b0 = now - now % W := ⟨_, rfl⟩
  have z0 : Hid (b0 % W = 0 ∧ (b0 - sp) % W = 0 ∧ (b0 - 2 * sp) % W = 0) := by
    have y0 : b0 % W = 0 := by rw [hb0, Int.sub_emod, Int.emod_emod_of_dvd _ (Int.dvd_refl _), Int.sub_self]; rfl
    exact ⟨y0, by rw [Int.sub_emod, y0, spm]; rfl, by rw [Int.sub_emod, y0, Int.mul_emod, spm]; simp⟩
  have hb1 : 0 ≤ b0 ∧ b0 ≤ 65535 := by omega
  have HB0 := Lib.hid hb0
  rw [← hb0] at hend
  clear hb0 spm
  go_enter Try.func3, Try.ntmps3
  go_wp2_with fail
  refine (counts_calls _).mono ?_
  rintro e' w1 ⟨rfl, hb⟩
  replace HL := Lib.hid (HL.out.below hb)
  replace HB := Lib.hid (HB.out.trans ((show Below _ _ _ from hb).mono HB.out.size))
  clear hb
  go_wp2_with fail
  refine (few_calls _ l _ HL.out).mono ?_
  rintro e' w2 ⟨rfl, hb⟩
  rw [HF.out]
  replace HL := Lib.hid (HL.out.below hb)
  replace HB := Lib.hid (HB.out.trans ((show Below _ _ _ from hb).mono HB.out.size))
  clear hb
  go_wp2_with fail
  have hmm := @run_makeMap Try.prog
  have hw0 := HB.out.size
  refine (new_calls _ _).mono ?_
  rintro e' w4 ⟨p, pb, rfl, hp1, hg1, hg2, hb⟩
  rw [show min (max W 1) 1099511627776 = W by omega] at hp1
  have HP0 := Lib.hid hp1
  have HGE : Hid (w.heap.size ≤ p ∧ w.heap.size ≤ pb) := ⟨by omega, by omega⟩
  have HPL : Hid (p < w4.heap.size ∧ pb < w4.heap.size) := ⟨blk_lt hp1.blk, hp1.map.lt⟩
  replace HL := Lib.hid (HL.out.below hb)
  clear hp1 hg1 hg2 hw0
  replace HB := Lib.hid (HB.out.trans ((show Below _ _ _ from hb).mono HB.out.size))
  clear hb
  obtain ⟨LL, hLL⟩ : ∃ L, L = l.map TAdd.add := ⟨_, rfl⟩
  have hLl : LL.length = l.length := by rw [hLL, List.length_map]
  have HLL := Lib.hid hLL
  have HLG := Lib.hid hLl
  obtain ⟨so, scap, rfl, hmx⟩ := SliceR.shape HLw.out
  clear hLL hLl HL hmx
  have HP1 : Hid (PanesAt (w4.alloc (.map #[] 0)) p W (cntOf ([] : List Add)) pb (sumsOf W [])) := HP0.out.below ((Below.refl _ w4).alloc (Nat.le_refl _) _)
  have HK1 : Hid (MapT Try.prog 9 Value.string (Value.int .i64) (w4.alloc (.map #[] 0)) w4.heap.size ([] : List (ByteArray × Int))) := MapT_made _ _ _ _ _
  go_wp2
  clear hmm
  go_loopg [47] l.length (fun m i wr => ∃ (k : Nat) (KM : List (ByteArray × Int)), k + m = l.length ∧ i = .int .i64 k ∧ Hid (PanesAt wr p W (cntOf (LL.take k)) pb (sumsOf W (LL.take k))) ∧ Hid (MapT Try.prog 9 Value.string (Value.int .i64) wr w4.heap.size KM) ∧ Hid (∀ c ∈ KM, 0 ≤ c.2 ∧ c.2 ≤ k ∧ ∃ a ∈ LL, a.key = c.1) ∧ Hid (Below w.heap.size w wr))
  case atStart => exact ⟨0, [], by omega, rfl, HP1, HK1, Lib.hid (by simp), HB.out.alloc HB.out.size _⟩
  case round =>
    clear HB HP0 HP1 HK1
    obtain ⟨k, KM, hkm, rfl, HP, HK, HKF, HB⟩ := hrel
    by_cases hkn : k < l.length
    · obtain ⟨b, off, cap, heq, hblt, hok, e0, e1, e2⟩ := tadds_cell HLw.out hkn
      cases heq
      obtain ⟨a, ha⟩ : ∃ a, a = l[k] := ⟨_, rfl⟩
      rw [← ha] at e0 e1 e2 hok
      have hbd := TAdd.bd hok
      have hks' : a.key.size ≤ 24 := HF1.out a (by rw [ha]; exact List.getElem_mem _)
      have hLk : LL[k]'(by rw [HLG.out]; exact hkn) = a.add := by simp only [HLL.out, List.getElem_map, ha]
      have HTK : Hid (LL.take (k + 1) = LL.take k ++ [a.add]) := by
        rw [← hLk]; exact List.take_succ_eq_append_getElem (by rw [HLG.out]; exact hkn)
      have HMEM : Hid (∃ y ∈ LL, y.key = a.key) := ⟨a.add, by rw [← hLk]; exact List.getElem_mem _, rfl⟩
      have k0 := (HB.out.cell (p := ⟨b, off + k * 3, none⟩) hblt).trans e0
      have k1 := (HB.out.cell (p := ⟨b, off + k * 3 + 1, none⟩) hblt).trans e1
      have k2 := (HB.out.cell (p := ⟨b, off + k * 3 + 2, none⟩) hblt).trans e2
      obtain ⟨hb1, hb2, hb3, hb4⟩ := hbd
      clear e0 e1 e2 ha hLk
      by_cases hz : a.key.size = 0
      · have hzb : (a.key.toList == ([] : List UInt8)) = true := by
          have : a.key = ByteArray.mk #[] := ByteArray.ext (Array.eq_empty_of_size_eq_zero hz)
          rw [this]; decide +kernel
        clear hz
        go_wp2
        go_ret
        exact ⟨rfl, HB.out.alloc HB.out.size _⟩
      · have hzb : (a.key.toList == ([] : List UInt8)) = false := by
          rw [beq_eq_false_iff_ne]
          intro h
          have : a.key = ByteArray.mk #[] := ba_eq.1 (h.trans (by decide +kernel))
          rw [this] at hz; exact hz rfl
        have hra : rightB a.add = true := TAdd.right hok (by omega) hks'
        have hsz9 : a.key.size ≤ 9223372036854775807 := by omega
        have htl := List.length_take_le k LL
        have hLlen : LL.length ≤ 60 := by rw [HLG.out]; exact hlen
        have HPa : Hid (PanesAt (wr.alloc (.cells #[.string a.key, .int .u16 a.at_, .int .u16 a.n] 30)) p W (cntOf (LL.take k)) pb (sumsOf W (LL.take k))) := HP.out.below ((Below.refl _ wr).alloc (Nat.le_refl _) _)
        have HKa : Hid (MapT Try.prog 9 Value.string (Value.int .i64) (wr.alloc (.cells #[.string a.key, .int .u16 a.at_, .int .u16 a.n] 30)) w4.heap.size KM) := HK.out.alloc _
        have BA : Hid ((wr.alloc (.cells #[.string a.key, .int .u16 a.at_, .int .u16 a.n] 30)).heap[wr.heap.size]? = some (.cells #[.string a.key, .int .u16 a.at_, .int .u16 a.n] 30 (0, 0))) := blk_new wr _
        have HBa : Hid (Below w.heap.size w (wr.alloc (.cells #[.string a.key, .int .u16 a.at_, .int .u16 a.n] 30))) := HB.out.alloc HB.out.size _
        have hkl := HK.out.lt
        have HRA := Lib.hid hra
        clear hz hra
        go_wp2_with fail
        refine (add_calls _ p W _ pb _ a.key a.at_ a.n HPa.out hsz9).mono ?_
        rintro e' w5 h
        obtain ⟨rfl, hfr, hpa⟩ := addMore (a := a.add) HRA.out (by omega) h
        rw [← HTK.out] at hpa
        replace HPa := Lib.hid hpa
        replace HKa := Lib.hid (HKa.out.fr hfr (by have := HPL.out; simp; omega))
        replace BA := Lib.hid (blk_fr BA.out hfr (by have := HPL.out; simp; omega))
        replace HBa := Lib.hid (HBa.out.trans (hfr.below HBa.out.size (by have := HGE.out; simp; omega)))
        clear h hfr hpa k0 k1 k2
        have j0 := (blk_cell BA.out 0).trans rfl
        have HGD : Hid (GoodK Try.prog 9 (.string a.key)) := strGood a.key (by unfold maxLen; omega)
        obtain ⟨o, ho⟩ : ∃ o, (lookA KM a.key).getD 0 = o := ⟨_, rfl⟩
        have hlk : ((lookA KM a.key).map (Value.int .i64)).getD (.int .i64 0) = .int .i64 o := by rw [← ho]; cases lookA KM a.key <;> rfl
        have hob : 0 ≤ o ∧ o ≤ k := by
          rw [← ho]
          cases h : lookA KM a.key with
          | none => simp
          | some z => have := HKF.out _ (lookA_mem' h); simp at this ⊢; omega
        have HLK := Lib.hid hlk
        clear hlk ho
        go_wp2_with (first | (at_lookup; refine wpList_lookT _ rfl _ _ _ rfl _ _ strKeyed Try.underlying28 (.int .i64 0) (intGood _) Value.string (Value.int .i64) str_inj w4.heap.size _ rfl HKa.out a.key rfl HGD.out (.int .i64 o) HLK.out ?_) | (at_mapUpdate; refine wpList_updT _ rfl _ _ _ _ rfl _ _ strKeyed Try.underlying28 Value.string (Value.int .i64) str_inj w4.heap.size _ rfl HKa.out a.key rfl HGD.out (o + 1) rfl ?_; intro w9 hS9 hfr9 hsz9))
        have HPn : Hid (PanesAt w9 p W (cntOf (LL.take (k + 1))) pb (sumsOf W (LL.take (k + 1)))) := HPa.out.same (hfr9.block p (blk_lt HPa.out.blk) (by have := HPL.out; simp; omega)) (hfr9.block pb HPa.out.map.lt (by have := HPL.out; simp; omega))
        have HKn := Lib.hid hS9
        have HBn := Lib.hid (HBa.out.trans (hfr9.below HBa.out.size (by have := HBa.out.size; have := HPL.out; have := HGE.out; simp; omega)))
        clear hS9 hfr9 hsz9 j0
        go_wp2
        go_roundg (l.length - (k + 1))
        case measure => omega
        case rel =>
          refine ⟨k + 1, _, by omega, by go_num, HPn, HKn, fun c hc => ?_, HBn⟩
          rcases mem_putA hc with rfl | hc
          · exact ⟨by show 0 ≤ o + 1; omega, by show o + 1 ≤ _; push_cast; omega, HMEM.out⟩
          · obtain ⟨q1, q2, q3⟩ := HKF.out c hc
            exact ⟨q1, by push_cast; omega, q3⟩
    · obtain rfl : k = l.length := by omega
      have hll : LL.length = l.length := HLG.out
      rw [show LL.take l.length = LL by rw [← hll, List.take_length]] at HP
      clear hll hkn hkm
      have hLlen : LL.length ≤ 60 := by rw [HLG.out]; exact hlen
      have hKm := HK.out.lt
      obtain ⟨L, hL⟩ : ∃ L, L = risL LL W sp now fl := ⟨_, rfl⟩
      have HLF := Lib.hid (risL_facts LL (by omega) W sp now fl)
      rw [← hL] at HLF
      have HOK : Hid (∀ r ∈ L, r.ok ∧ 1 ≤ r.nw ∧ fl ≤ r.nw ∧ r.nw = rangeSum LL r.key (b0 - sp) b0 ∧ r.od = rangeSum LL r.key (b0 - 2 * sp) (b0 - sp)) := fun r hr => by
        obtain ⟨_, a2, a3, a4, _⟩ := (HLF.out.1 r).1 hr
        refine ⟨by rw [a2]; exact riseOf_ok2 LL (by omega) W sp now _, a3, a4, ?_, ?_⟩
        · rw [HB0.out]; exact congrArg Rz.nw a2
        · rw [HB0.out]; exact congrArg Rz.od a2
      have HKY : Hid (∀ x ∈ L, ∀ y ∈ L, x.key = y.key → x = y) := fun x hx y hy e => by
        rw [((HLF.out.1 x).1 hx).2.1, ((HLF.out.1 y).1 hy).2.1, e]
      have HIN : Hid (∀ a ∈ LL, fl ≤ rangeSum LL a.key (b0 - sp) b0 → 0 < rangeSum LL a.key (b0 - sp) b0 → ∃ r ∈ L, r.key = a.key) := fun a ha g1 g2 => by
        rw [HB0.out] at g1 g2
        exact ⟨riseOf LL W sp now a.key, (HLF.out.1 _).2 ⟨hMR.out, rfl, by show 1 ≤ rangeSum LL a.key _ _; omega, g1, a, ha, rfl⟩, rfl⟩
      have HLL2 := Lib.hid hL
      have HKS : Hid (∀ a ∈ LL, a.key.size ≤ 24) := fun a ha => by
        rw [HLL.out] at ha
        obtain ⟨y, hy, rfl⟩ := List.mem_map.1 ha
        exact HF1.out y hy
      have HRK : Hid (∀ r ∈ L, r.key.size ≤ 24) := fun r hr => by
        obtain ⟨_, _, _, _, a, ha, e⟩ := (HLF.out.1 r).1 hr
        rw [← e]; exact HKS.out a ha
      have HSUM : Hid (∀ (w : World) (k : ByteArray), PanesAt w p W (cntOf LL) pb (sumsOf W LL) → Calls Try.prog 19 #[.pointer (some ⟨p, 0, none⟩), .string k, .int .i64 (b0 - sp), .int .i64 b0] w (IntPost w (rangeSum LL k (b0 - sp) b0))) := fun w k h => by
        have := sum_calls w p W _ pb _ k (b0 - sp) b0 h (by omega) (by omega) (by omega) (by omega)
        rwa [psum_b W1.1 z0.out.2.1 z0.out.1] at this
      have HSUM2 : Hid (∀ (w : World) (k : ByteArray), PanesAt w p W (cntOf LL) pb (sumsOf W LL) → Calls Try.prog 19 #[.pointer (some ⟨p, 0, none⟩), .string k, .int .i64 (b0 - 2 * sp), .int .i64 (b0 - sp)] w (IntPost w (rangeSum LL k (b0 - 2 * sp) (b0 - sp)))) := fun w k h => by
        have := sum_calls w p W _ pb _ k (b0 - 2 * sp) (b0 - sp) h (by omega) (by omega) (by omega) (by omega)
        rwa [psum_b W1.1 z0.out.2.2 z0.out.2.1] at this
      clear hL hLlen
      have hEw : wrap64 b0 = b0 := by unfold wrap64; omega
      go_wp2_with fail
      refine (of_any _ LL (by rw [HLG.out]; omega) p W _ pb sp now fl HP.out).mono ?_
      rintro e' w6 ⟨v1, rfl, hr1, hb⟩
      rw [← HLL2.out] at hr1
      replace HP := Lib.hid (HP.out.below hb)
      replace HK := Lib.hid (HK.out.below hb hKm)
      have HR := Lib.hid hr1
      replace HB := Lib.hid (HB.out.trans ((show Below _ _ _ from hb).mono HB.out.size))
      clear hb
      obtain ⟨ro, rc, rfl, hmx⟩ := SliceR.shape hr1
      have hLl : L.length ≤ 9223372036854775807 := by unfold maxLen at *; omega
      have HM0 : Hid (MapT Try.prog 9 Value.string (Value.int .i64) (w6.alloc (.map #[] 0)) w6.heap.size (toldM [])) := MapT_made _ _ _ _ _
      have hmm := @run_makeMap Try.prog
      clear hr1 hmx hKm hEw
      go_wp2
      clear hmm
      go_loopg [89] L.length (fun m i wr => ∃ k : Nat, k + m = L.length ∧ i = .int .i64 k ∧ Hid (MapT Try.prog 9 Value.string (Value.int .i64) wr w6.heap.size (toldM (L.take k))) ∧ Hid (Below w6.heap.size w6 wr))
      case atStart => exact ⟨0, by omega, rfl, HM0, (Below.refl _ w6).alloc (Nat.le_refl _) _⟩
      case round =>
        clear HM0
        obtain ⟨k, hkm, rfl, HM, HB2⟩ := hrel
        by_cases hkn : k < L.length
        · obtain ⟨b, f, d, q1, hb1, e1⟩ := CK.RowK.cell (HR.out.below HB2.out) hkn
          cases q1
          obtain ⟨rok, r1, r2, r3, r4⟩ := HOK.out L[k] (List.getElem_mem _)
          have hkz := HRK.out L[k] (List.getElem_mem _)
          have HTN : Hid (toldM (L.take (k + 1)) = putA (toldM (L.take k)) L[k].key 1 ∧ lookA (toldM (L.take k)) L[k].key = none) := by
            have hn : ∀ x ∈ L.take k, x.key ≠ L[k].key := fun x hx e => by
              obtain ⟨i, hi, rfl⟩ := List.getElem_of_mem hx
              rw [List.getElem_take] at e
              have h3 := (List.getElem_inj HLF.out.2.1).1 (HKY.out _ (List.getElem_mem _) _ (List.getElem_mem _) e)
              rw [List.length_take] at hi
              omega
            refine ⟨?_, toldM_none hn⟩
            rw [toldM_put hn, List.take_succ_eq_append_getElem hkn]
          have HLO : Hid (lookA (toldM (L.take (k + 1))) L[k].key = some 1) := toldM_some (by rw [List.take_succ_eq_append_getElem hkn]; exact List.mem_append_right _ (by simp))
          obtain ⟨⟨rk, rn, ro⟩, hr⟩ : ∃ c : Rz, c = L[k] := ⟨_, rfl⟩
          rw [← hr] at e1 rok r1 r2 r3 r4 HTN HLO hkz
          have hr' := Lib.hid hr
          simp only [Rz.ok] at rok r1 r2 r3 r4 HTN HLO hkz
          obtain ⟨g0, g1, g2, g3⟩ := rok
          have HR3 := Lib.hid r3
          have HR4 := Lib.hid r4
          have a0 : wr.cell? ⟨b, f + k * 3, none⟩ = some (.string rk) := (e1 0 (by omega)).trans rfl
          have a1 : wr.cell? ⟨b, f + k * 3 + 1, none⟩ = some (.int .i64 rn) := (e1 1 (by omega)).trans rfl
          have a2 : wr.cell? ⟨b, f + k * 3 + 2, none⟩ = some (.int .i64 ro) := (e1 2 (by omega)).trans rfl
          have HGD : Hid (GoodK Try.prog 9 (.string rk)) := strGood rk (by unfold maxLen; omega)
          have HMa : Hid (MapT Try.prog 9 Value.string (Value.int .i64) (wr.alloc (.cells #[.string rk, .int .i64 rn, .int .i64 ro] 35)) w6.heap.size (toldM (L.take k))) := HM.out.alloc _
          have BA : Hid ((wr.alloc (.cells #[.string rk, .int .i64 rn, .int .i64 ro] 35)).heap[wr.heap.size]? = some (.cells #[.string rk, .int .i64 rn, .int .i64 ro] 35 (0, 0))) := blk_new wr _
          have HBa : Hid (Below w6.heap.size w6 (wr.alloc (.cells #[.string rk, .int .i64 rn, .int .i64 ro] 35))) := HB2.out.alloc HB2.out.size _
          have hmlt : w6.heap.size < wr.heap.size := HM.out.lt
          have HLK : Hid (((lookA (toldM (L.take k)) rk).map (Value.int .i64)).getD (.int .i64 0) = .int .i64 0) := by show _ = _; rw [HTN.out.2]; rfl
          clear e1 hr r3 r4
          go_wp2_with (first | (at_lookup; refine wpList_lookT _ rfl _ _ _ rfl _ _ strKeyed Try.underlying28 (.int .i64 0) (intGood _) Value.string (Value.int .i64) str_inj w6.heap.size _ rfl HMa.out rk rfl HGD.out (.int .i64 0) HLK.out ?_) | (at_mapUpdate; refine wpList_updT _ rfl _ _ _ _ rfl _ _ strKeyed Try.underlying28 Value.string (Value.int .i64) str_inj w6.heap.size _ rfl HMa.out rk rfl HGD.out 1 rfl ?_; intro w9 hS9 hfr9 hsz9; rw [← HTN.out.1] at hS9; replace HMa := Lib.hid hS9; replace BA := Lib.hid (blk_fr BA.out hfr9 (by simp; omega)); replace HBa := Lib.hid (HBa.out.trans (hfr9.below HBa.out.size (by simp))); clear hS9 hfr9 hsz9 a0 a1 a2))
          refine name_w (fun w' => (w'.drew.heap[wr.heap.size]? = some (.cells #[.string rk, .int .i64 rn, .int .i64 ro] 35 (0, 0)) ∧ MapT Try.prog 9 Value.string (Value.int .i64) w'.drew w6.heap.size (toldM (L.take (k + 1)))) ∧ Below w6.heap.size w6 w'.drew) ⟨⟨BA.out, HMa.out.drew⟩, HBa.out.drew⟩ ?_
          clear BA HMa HBa HM HB2 HGD HLK
          rintro w0 ⟨⟨BA, HMa⟩, HBa⟩
          replace BA := Lib.hid BA
          replace HMa := Lib.hid HMa
          replace HBa := Lib.hid HBa
          have HTR : Hid (∀ w' : World, Below w6.heap.size w6 w' → MapT Try.prog 9 Value.string (Value.int .i64) w' w6.heap.size (toldM (L.take (k + 1))) → (Instr.lookup 28 (.map (some w6.heap.size)) (.string rk) false).run Try.prog w' = .ok (.int .i64 1) w') := fun w' _ h => told_run h (by unfold maxLen; omega) (by rw [HLO.out]; rfl)
          have HPw := HP
          have HP : Hid (PanesAt w0.drew p W (cntOf LL) pb (sumsOf W LL)) := HPw.out.below HBa.out
          have d2 : decide (rn < fl) = false := by rw [decide_eq_false_iff_not]; omega
          have u1 : IntKind.i64.wrap (b0 - sp) = b0 - sp := IntWalk.i64_in _ (by omega)
          have u3 : IntKind.i64.wrap (2 * sp) = 2 * sp := IntWalk.i64_in _ (by omega)
          have u5 : IntKind.i64.wrap (b0 - 2 * sp) = b0 - 2 * sp := IntWalk.i64_in _ (by omega)
          have u7 : IntKind.i64.wrap fl = fl := IntWalk.i64_in _ (by omega)
          have u0 : wrap64 (b0 - sp) = b0 - sp := by unfold wrap64; omega
          have u2 : wrap64 (2 * sp) = 2 * sp := by unfold wrap64; omega
          have u4 : wrap64 (b0 - 2 * sp) = b0 - 2 * sp := by unfold wrap64; omega
          have u6 : wrap64 fl = fl := by unfold wrap64; omega
          refine start_ (n := 41) (S := fun w' => w'.cell? ⟨wr.heap.size, 0, none⟩ = some (.string rk) ∧ w'.cell? ⟨wr.heap.size, 1, none⟩ = some (.int .i64 rn) ∧ w'.cell? ⟨wr.heap.size, 2, none⟩ = some (.int .i64 ro) ∧ (Instr.lookup 28 (.map (some w6.heap.size)) (.string rk) false).run Try.prog w' = .ok (.int .i64 1) w') (ds := []) #[false, false, false, false, false, false, false, false, false, false, false, false, false, false, false, false, false, false, false, false, false, false, false, false, false, false, false, false, false, false, false, false, false, false, false, false, false, false, false, false, false] (by kernel_rfl) rfl rfl ⟨(blk_cell BA.out 0), (blk_cell BA.out 1), (blk_cell BA.out 2), (HTR.out _ HBa.out HMa.out)⟩ (fun hHeld => ?_)
          refine pure_ (i := 0) (N := some 99) (v := ?_) (a' := ?_) #[true, false, false, false, false, false, false, false, false, false, false, false, false, false, false, false, false, false, false, false, false, false, false, false, false, false, false, false, false, false, false, false, false, false, false, false, false, false, false, false, false] rfl rfl (by kernel_rfl) (fun _ _ _ h => h) (Or.inl ⟨by rfl, ?_⟩) ?_ ?_
          rotate_left
          · intro w'
            go_simp
            with_reducible rfl
          rotate_left
          · simp only [Act.put, List.setIfInBounds_toArray, List.set_cons_zero, List.set_cons_succ, i64_w, i32_w]
            rfl
          refine pure_ (i := 2) (N := some 101) (v := ?_) (a' := ?_) #[true, false, true, false, false, false, false, false, false, false, false, false, false, false, false, false, false, false, false, false, false, false, false, false, false, false, false, false, false, false, false, false, false, false, false, false, false, false, false, false, false] rfl rfl (by kernel_rfl) (fun _ _ _ h => h) (Or.inl ⟨by rfl, ?_⟩) ?_ ?_
          rotate_left
          · intro w'
            go_simp
            with_reducible rfl
          rotate_left
          · simp only [Act.put, List.setIfInBounds_toArray, List.set_cons_zero, List.set_cons_succ, i64_w, i32_w]
            rfl
          refine pure_ (i := 3) (N := some 102) (v := ?_) (a' := ?_) #[true, false, true, true, false, false, false, false, false, false, false, false, false, false, false, false, false, false, false, false, false, false, false, false, false, false, false, false, false, false, false, false, false, false, false, false, false, false, false, false, false] rfl rfl (by kernel_rfl) (fun _ _ _ h => h) (Or.inl ⟨by rfl, ?_⟩) ?_ ?_
          rotate_left
          · intro w'
            go_simp
            with_reducible rfl
          rotate_left
          · simp only [Act.put, List.setIfInBounds_toArray, List.set_cons_zero, List.set_cons_succ, i64_w, i32_w]
            rfl
          refine pure_ (i := 5) (N := some 104) (v := ?_) (a' := ?_) #[true, false, true, true, false, true, false, false, false, false, false, false, false, false, false, false, false, false, false, false, false, false, false, false, false, false, false, false, false, false, false, false, false, false, false, false, false, false, false, false, false] rfl rfl (by kernel_rfl) (fun _ _ _ h => h) (Or.inl ⟨by rfl, ?_⟩) ?_ ?_
          rotate_left
          · intro w'
            go_simp
            with_reducible rfl
          rotate_left
          · simp only [Act.put, List.setIfInBounds_toArray, List.set_cons_zero, List.set_cons_succ, i64_w, i32_w]
            rfl
          refine pure_ (i := 6) (N := some 105) (v := ?_) (a' := ?_) #[true, false, true, true, false, true, true, false, false, false, false, false, false, false, false, false, false, false, false, false, false, false, false, false, false, false, false, false, false, false, false, false, false, false, false, false, false, false, false, false, false] rfl rfl (by kernel_rfl) (fun _ _ _ h => h) (Or.inl ⟨by rfl, ?_⟩) ?_ ?_
          rotate_left
          · intro w'
            go_simp
            with_reducible rfl
          rotate_left
          · simp only [Act.put, List.setIfInBounds_toArray, List.set_cons_zero, List.set_cons_succ, i64_w, i32_w]
            rfl
          refine pure_ (i := 7) (N := some 106) (v := ?_) (a' := ?_) #[true, false, true, true, false, true, true, true, false, false, false, false, false, false, false, false, false, false, false, false, false, false, false, false, false, false, false, false, false, false, false, false, false, false, false, false, false, false, false, false, false] rfl rfl (by kernel_rfl) (fun _ _ _ h => h) (Or.inl ⟨by rfl, ?_⟩) ?_ ?_
          rotate_left
          · intro w'
            go_simp
            with_reducible rfl
          rotate_left
          · simp only [Act.put, List.setIfInBounds_toArray, List.set_cons_zero, List.set_cons_succ, i64_w, i32_w]
            rfl
          refine pure_ (i := 8) (N := some 107) (v := ?_) (a' := ?_) #[true, false, true, true, false, true, true, true, true, false, false, false, false, false, false, false, false, false, false, false, false, false, false, false, false, false, false, false, false, false, false, false, false, false, false, false, false, false, false, false, false] rfl rfl (by kernel_rfl) (fun _ _ _ h => h) (Or.inl ⟨by rfl, ?_⟩) ?_ ?_
          rotate_left
          · intro w'
            go_simp
            with_reducible rfl
          rotate_left
          · simp only [Act.put, List.setIfInBounds_toArray, List.set_cons_zero, List.set_cons_succ, i64_w, i32_w]
            rfl
          refine take_ (i := 1) (N := some 100) (v := ?_) (a' := ?_) #[true, true, true, true, false, true, true, true, true, false, false, false, false, false, false, false, false, false, false, false, false, false, false, false, false, false, false, false, false, false, false, false, false, false, false, false, false, false, false, false, false] rfl rfl (by kernel_rfl) (fun _ _ _ h => h) (Or.inl ⟨by rfl, ?_⟩) hHeld ?_ ?_
          rotate_left
          · rintro w' ⟨s0, s1, s2, s3⟩
            go_simp
            with_reducible rfl
          rotate_left
          · simp only [Act.put, List.setIfInBounds_toArray, List.set_cons_zero, List.set_cons_succ, i64_w, i32_w]
            rfl
          refine take_ (i := 4) (N := some 103) (v := ?_) (a' := ?_) #[true, true, true, true, true, true, true, true, true, false, false, false, false, false, false, false, false, false, false, false, false, false, false, false, false, false, false, false, false, false, false, false, false, false, false, false, false, false, false, false, false] rfl rfl (by kernel_rfl) (fun _ _ _ h => h) (Or.inl ⟨by rfl, ?_⟩) hHeld ?_ ?_
          rotate_left
          · rintro w' ⟨s0, s1, s2, s3⟩
            go_simp
            with_reducible rfl
          rotate_left
          · simp only [Act.put, List.setIfInBounds_toArray, List.set_cons_zero, List.set_cons_succ, i64_w, i32_w]
            rfl
          refine one_ (i := 9) (N := some 108) #[true, true, true, true, true, true, true, true, true, true, false, false, false, false, false, false, false, false, false, false, false, false, false, false, false, false, false, false, false, false, false, false, false, false, false, false, false, false, false, false, false] rfl rfl (by kernel_rfl) (by decide) (fun K hK => ?_)
          refine goes_ Try.func19 (by kernel_rfl) rfl #[.pointer (some ⟨p, 0, none⟩), .string rk, .int .i64 (b0 - sp), .int .i64 b0] (by rfl) rfl rfl (by (try simp only [List.map_toArray, List.map_cons, List.map_nil]); first | done | rfl) ?_
          with_reducible refine (HSUM.out _ rk HP.out).mono ?_
          rintro e w7 ⟨rfl, hg⟩
          refine ⟨_, rfl, ?_⟩
          rw [← HR3.out]
          have hb := hg
          replace BA := Lib.hid (blk_below BA.out hb (blk_lt BA.out))
          replace HP := Lib.hid (HP.out.below hb)
          replace HMa := Lib.hid (HMa.out.below hb HMa.out.lt)
          replace HBa := Lib.hid (HBa.out.trans ((show Below _ _ _ from hb).mono HBa.out.size))
          clear hb hg
          refine hK.out _ _ ⟨(blk_cell BA.out 0), (blk_cell BA.out 1), (blk_cell BA.out 2), (HTR.out _ HBa.out HMa.out)⟩ (fun hHeld => ?_)
          clear hK K
          refine norm_ (a' := ?_) ?_ ?_
          rotate_left
          · show Act.put _ (some 108) _ = _
            simp only [Act.put, List.setIfInBounds_toArray, List.set_cons_zero, List.set_cons_succ, i64_w, i32_w]
            rfl
          refine pure_ (i := 10) (N := some 109) (v := ?_) (a' := ?_) #[true, true, true, true, true, true, true, true, true, true, true, false, false, false, false, false, false, false, false, false, false, false, false, false, false, false, false, false, false, false, false, false, false, false, false, false, false, false, false, false, false] rfl rfl (by kernel_rfl) (fun _ _ _ h => h) (Or.inl ⟨by rfl, ?_⟩) ?_ ?_
          rotate_left
          · intro w'
            go_simp
            with_reducible rfl
          rotate_left
          · simp only [Act.put, List.setIfInBounds_toArray, List.set_cons_zero, List.set_cons_succ, i64_w, i32_w]
            rfl
          refine pure_ (i := 11) (N := some 110) (v := ?_) (a' := ?_) #[true, true, true, true, true, true, true, true, true, true, true, true, false, false, false, false, false, false, false, false, false, false, false, false, false, false, false, false, false, false, false, false, false, false, false, false, false, false, false, false, false] rfl rfl (by kernel_rfl) (fun _ _ _ h => h) (Or.inl ⟨by rfl, ?_⟩) ?_ ?_
          rotate_left
          · intro w'
            go_simp
            with_reducible rfl
          rotate_left
          · simp only [Act.put, List.setIfInBounds_toArray, List.set_cons_zero, List.set_cons_succ, i64_w, i32_w]
            rfl
          refine pure_ (i := 12) (N := some 111) (v := ?_) (a' := ?_) #[true, true, true, true, true, true, true, true, true, true, true, true, true, false, false, false, false, false, false, false, false, false, false, false, false, false, false, false, false, false, false, false, false, false, false, false, false, false, false, false, false] rfl rfl (by kernel_rfl) (fun _ _ _ h => h) (Or.inl ⟨by rfl, ?_⟩) ?_ ?_
          rotate_left
          · intro w'
            go_simp
            with_reducible rfl
          rotate_left
          · simp only [Act.put, List.setIfInBounds_toArray, List.set_cons_zero, List.set_cons_succ, i64_w, i32_w]
            rfl
          refine pure_ (i := 14) (N := some 113) (v := ?_) (a' := ?_) #[true, true, true, true, true, true, true, true, true, true, true, true, true, false, true, false, false, false, false, false, false, false, false, false, false, false, false, false, false, false, false, false, false, false, false, false, false, false, false, false, false] rfl rfl (by kernel_rfl) (fun _ _ _ h => h) (Or.inl ⟨by rfl, ?_⟩) ?_ ?_
          rotate_left
          · intro w'
            go_simp
            with_reducible rfl
          rotate_left
          · simp only [Act.put, List.setIfInBounds_toArray, List.set_cons_zero, List.set_cons_succ, i64_w, i32_w]
            rfl
          refine pure_ (i := 15) (N := some 114) (v := ?_) (a' := ?_) #[true, true, true, true, true, true, true, true, true, true, true, true, true, false, true, true, false, false, false, false, false, false, false, false, false, false, false, false, false, false, false, false, false, false, false, false, false, false, false, false, false] rfl rfl (by kernel_rfl) (fun _ _ _ h => h) (Or.inl ⟨by rfl, ?_⟩) ?_ ?_
          rotate_left
          · intro w'
            go_simp
            with_reducible rfl
          rotate_left
          · simp only [Act.put, List.setIfInBounds_toArray, List.set_cons_zero, List.set_cons_succ, i64_w, i32_w]
            rfl
          refine pure_ (i := 17) (N := some 116) (v := ?_) (a' := ?_) #[true, true, true, true, true, true, true, true, true, true, true, true, true, false, true, true, false, true, false, false, false, false, false, false, false, false, false, false, false, false, false, false, false, false, false, false, false, false, false, false, false] rfl rfl (by kernel_rfl) (fun _ _ _ h => h) (Or.inl ⟨by rfl, ?_⟩) ?_ ?_
          rotate_left
          · intro w'
            go_simp
            with_reducible rfl
          rotate_left
          · simp only [Act.put, List.setIfInBounds_toArray, List.set_cons_zero, List.set_cons_succ, i64_w, i32_w]
            rfl
          refine pure_ (i := 18) (N := some 117) (v := ?_) (a' := ?_) #[true, true, true, true, true, true, true, true, true, true, true, true, true, false, true, true, false, true, true, false, false, false, false, false, false, false, false, false, false, false, false, false, false, false, false, false, false, false, false, false, false] rfl rfl (by kernel_rfl) (fun _ _ _ h => h) (Or.inl ⟨by rfl, ?_⟩) ?_ ?_
          rotate_left
          · intro w'
            go_simp
            with_reducible rfl
          rotate_left
          · simp only [Act.put, List.setIfInBounds_toArray, List.set_cons_zero, List.set_cons_succ, i64_w, i32_w]
            rfl
          refine pure_ (i := 19) (N := some 118) (v := ?_) (a' := ?_) #[true, true, true, true, true, true, true, true, true, true, true, true, true, false, true, true, false, true, true, true, false, false, false, false, false, false, false, false, false, false, false, false, false, false, false, false, false, false, false, false, false] rfl rfl (by kernel_rfl) (fun _ _ _ h => h) (Or.inl ⟨by rfl, ?_⟩) ?_ ?_
          rotate_left
          · intro w'
            go_simp
            with_reducible rfl
          rotate_left
          · simp only [Act.put, List.setIfInBounds_toArray, List.set_cons_zero, List.set_cons_succ, i64_w, i32_w]
            rfl
          refine pure_ (i := 20) (N := some 119) (v := ?_) (a' := ?_) #[true, true, true, true, true, true, true, true, true, true, true, true, true, false, true, true, false, true, true, true, true, false, false, false, false, false, false, false, false, false, false, false, false, false, false, false, false, false, false, false, false] rfl rfl (by kernel_rfl) (fun _ _ _ h => h) (Or.inl ⟨by rfl, ?_⟩) ?_ ?_
          rotate_left
          · intro w'
            go_simp
            with_reducible rfl
          rotate_left
          · simp only [Act.put, List.setIfInBounds_toArray, List.set_cons_zero, List.set_cons_succ, i64_w, i32_w]
            rfl
          refine pure_ (i := 21) (N := some 120) (v := ?_) (a' := ?_) #[true, true, true, true, true, true, true, true, true, true, true, true, true, false, true, true, false, true, true, true, true, true, false, false, false, false, false, false, false, false, false, false, false, false, false, false, false, false, false, false, false] rfl rfl (by kernel_rfl) (fun _ _ _ h => h) (Or.inl ⟨by rfl, ?_⟩) ?_ ?_
          rotate_left
          · intro w'
            go_simp
            with_reducible rfl
          rotate_left
          · simp only [Act.put, List.setIfInBounds_toArray, List.set_cons_zero, List.set_cons_succ, i64_w, i32_w]
            rfl
          refine pure_ (i := 22) (N := some 121) (v := ?_) (a' := ?_) #[true, true, true, true, true, true, true, true, true, true, true, true, true, false, true, true, false, true, true, true, true, true, true, false, false, false, false, false, false, false, false, false, false, false, false, false, false, false, false, false, false] rfl rfl (by kernel_rfl) (fun _ _ _ h => h) (Or.inl ⟨by rfl, ?_⟩) ?_ ?_
          rotate_left
          · intro w'
            go_simp
            with_reducible rfl
          rotate_left
          · simp only [Act.put, List.setIfInBounds_toArray, List.set_cons_zero, List.set_cons_succ, i64_w, i32_w]
            rfl
          refine pure_ (i := 23) (N := some 122) (v := ?_) (a' := ?_) #[true, true, true, true, true, true, true, true, true, true, true, true, true, false, true, true, false, true, true, true, true, true, true, true, false, false, false, false, false, false, false, false, false, false, false, false, false, false, false, false, false] rfl rfl (by kernel_rfl) (fun _ _ _ h => h) (Or.inl ⟨by rfl, ?_⟩) ?_ ?_
          rotate_left
          · intro w'
            go_simp
            with_reducible rfl
          rotate_left
          · simp only [Act.put, List.setIfInBounds_toArray, List.set_cons_zero, List.set_cons_succ, i64_w, i32_w]
            rfl
          refine take_ (i := 13) (N := some 112) (v := ?_) (a' := ?_) #[true, true, true, true, true, true, true, true, true, true, true, true, true, true, true, true, false, true, true, true, true, true, true, true, false, false, false, false, false, false, false, false, false, false, false, false, false, false, false, false, false] rfl rfl (by kernel_rfl) (fun _ _ _ h => h) (Or.inl ⟨by rfl, ?_⟩) hHeld ?_ ?_
          rotate_left
          · rintro w' ⟨s0, s1, s2, s3⟩
            go_simp
            with_reducible rfl
          rotate_left
          · simp only [Act.put, List.setIfInBounds_toArray, List.set_cons_zero, List.set_cons_succ, i64_w, i32_w]
            rfl
          refine take_ (i := 16) (N := some 115) (v := ?_) (a' := ?_) #[true, true, true, true, true, true, true, true, true, true, true, true, true, true, true, true, true, true, true, true, true, true, true, true, false, false, false, false, false, false, false, false, false, false, false, false, false, false, false, false, false] rfl rfl (by kernel_rfl) (fun _ _ _ h => h) (Or.inl ⟨by rfl, ?_⟩) hHeld ?_ ?_
          rotate_left
          · rintro w' ⟨s0, s1, s2, s3⟩
            go_simp
            with_reducible rfl
          rotate_left
          · simp only [Act.put, List.setIfInBounds_toArray, List.set_cons_zero, List.set_cons_succ, i64_w, i32_w]
            rfl
          refine one_ (i := 24) (N := some 123) #[true, true, true, true, true, true, true, true, true, true, true, true, true, true, true, true, true, true, true, true, true, true, true, true, true, false, false, false, false, false, false, false, false, false, false, false, false, false, false, false, false] rfl rfl (by kernel_rfl) (by decide) (fun K hK => ?_)
          refine goes_ Try.func19 (by kernel_rfl) rfl #[.pointer (some ⟨p, 0, none⟩), .string rk, .int .i64 (b0 - 2 * sp), .int .i64 (b0 - sp)] (by rfl) rfl rfl (by (try simp only [List.map_toArray, List.map_cons, List.map_nil]); first | done | rfl) ?_
          with_reducible refine (HSUM2.out _ rk HP.out).mono ?_
          rintro e w8 ⟨rfl, hg⟩
          refine ⟨_, rfl, ?_⟩
          rw [← HR4.out]
          have hb := hg
          replace BA := Lib.hid (blk_below BA.out hb (blk_lt BA.out))
          replace HP := Lib.hid (HP.out.below hb)
          replace HMa := Lib.hid (HMa.out.below hb HMa.out.lt)
          replace HBa := Lib.hid (HBa.out.trans ((show Below _ _ _ from hb).mono HBa.out.size))
          clear hb hg
          refine hK.out _ _ ⟨(blk_cell BA.out 0), (blk_cell BA.out 1), (blk_cell BA.out 2), (HTR.out _ HBa.out HMa.out)⟩ (fun hHeld => ?_)
          clear hK K
          refine norm_ (a' := ?_) ?_ ?_
          rotate_left
          · show Act.put _ (some 123) _ = _
            simp only [Act.put, List.setIfInBounds_toArray, List.set_cons_zero, List.set_cons_succ, i64_w, i32_w]
            rfl
          refine pure_ (i := 25) (N := some 124) (v := ?_) (a' := ?_) #[true, true, true, true, true, true, true, true, true, true, true, true, true, true, true, true, true, true, true, true, true, true, true, true, true, true, false, false, false, false, false, false, false, false, false, false, false, false, false, false, false] rfl rfl (by kernel_rfl) (fun _ _ _ h => h) (Or.inl ⟨by rfl, ?_⟩) ?_ ?_
          rotate_left
          · intro w'
            go_simp
            with_reducible rfl
          rotate_left
          · simp only [Act.put, List.setIfInBounds_toArray, List.set_cons_zero, List.set_cons_succ, i64_w, i32_w]
            rfl
          refine pure_ (i := 26) (N := some 125) (v := ?_) (a' := ?_) #[true, true, true, true, true, true, true, true, true, true, true, true, true, true, true, true, true, true, true, true, true, true, true, true, true, true, true, false, false, false, false, false, false, false, false, false, false, false, false, false, false] rfl rfl (by kernel_rfl) (fun _ _ _ h => h) (Or.inl ⟨by rfl, ?_⟩) ?_ ?_
          rotate_left
          · intro w'
            go_simp
            with_reducible rfl
          rotate_left
          · simp only [Act.put, List.setIfInBounds_toArray, List.set_cons_zero, List.set_cons_succ, i64_w, i32_w]
            rfl
          refine pure_ (i := 27) (N := some 126) (v := ?_) (a' := ?_) #[true, true, true, true, true, true, true, true, true, true, true, true, true, true, true, true, true, true, true, true, true, true, true, true, true, true, true, true, false, false, false, false, false, false, false, false, false, false, false, false, false] rfl rfl (by kernel_rfl) (fun _ _ _ h => h) (Or.inl ⟨by rfl, ?_⟩) ?_ ?_
          rotate_left
          · intro w'
            go_simp
            with_reducible rfl
          rotate_left
          · simp only [Act.put, List.setIfInBounds_toArray, List.set_cons_zero, List.set_cons_succ, i64_w, i32_w]
            rfl
          refine pure_ (i := 28) (N := some 127) (v := ?_) (a' := ?_) #[true, true, true, true, true, true, true, true, true, true, true, true, true, true, true, true, true, true, true, true, true, true, true, true, true, true, true, true, true, false, false, false, false, false, false, false, false, false, false, false, false] rfl rfl (by kernel_rfl) (fun _ _ _ h => h) (Or.inl ⟨by rfl, ?_⟩) ?_ ?_
          rotate_left
          · intro w'
            go_simp
            with_reducible rfl
          rotate_left
          · simp only [Act.put, List.setIfInBounds_toArray, List.set_cons_zero, List.set_cons_succ, i64_w, i32_w]
            rfl
          refine pure_ (i := 30) (N := some 129) (v := ?_) (a' := ?_) #[true, true, true, true, true, true, true, true, true, true, true, true, true, true, true, true, true, true, true, true, true, true, true, true, true, true, true, true, true, false, true, false, false, false, false, false, false, false, false, false, false] rfl rfl (by kernel_rfl) (fun _ _ _ h => h) (Or.inl ⟨by rfl, ?_⟩) ?_ ?_
          rotate_left
          · intro w'
            go_simp
            with_reducible rfl
          rotate_left
          · simp only [Act.put, List.setIfInBounds_toArray, List.set_cons_zero, List.set_cons_succ, i64_w, i32_w]
            rfl
          refine pure_ (i := 31) (N := some 130) (v := ?_) (a' := ?_) #[true, true, true, true, true, true, true, true, true, true, true, true, true, true, true, true, true, true, true, true, true, true, true, true, true, true, true, true, true, false, true, true, false, false, false, false, false, false, false, false, false] rfl rfl (by kernel_rfl) (fun _ _ _ h => h) (Or.inl ⟨by rfl, ?_⟩) ?_ ?_
          rotate_left
          · intro w'
            go_simp
            with_reducible rfl
          rotate_left
          · simp only [Act.put, List.setIfInBounds_toArray, List.set_cons_zero, List.set_cons_succ, i64_w, i32_w]
            rfl
          refine take_ (i := 29) (N := some 128) (v := ?_) (a' := ?_) #[true, true, true, true, true, true, true, true, true, true, true, true, true, true, true, true, true, true, true, true, true, true, true, true, true, true, true, true, true, true, true, true, false, false, false, false, false, false, false, false, false] rfl rfl (by kernel_rfl) (fun _ _ _ h => h) (Or.inl ⟨by rfl, ?_⟩) hHeld ?_ ?_
          rotate_left
          · rintro w' ⟨s0, s1, s2, s3⟩
            go_simp
            with_reducible rfl
          rotate_left
          · simp only [Act.put, List.setIfInBounds_toArray, List.set_cons_zero, List.set_cons_succ, i64_w, i32_w]
            rfl
          refine pure_ (i := 32) (N := some 131) (v := ?_) (a' := ?_) #[true, true, true, true, true, true, true, true, true, true, true, true, true, true, true, true, true, true, true, true, true, true, true, true, true, true, true, true, true, true, true, true, true, false, false, false, false, false, false, false, false] rfl rfl (by kernel_rfl) (fun _ _ _ h => h) (Or.inl ⟨by rfl, ?_⟩) ?_ ?_
          rotate_left
          · intro w'
            go_simp
            with_reducible rfl
          rotate_left
          · simp only [Act.put, List.setIfInBounds_toArray, List.set_cons_zero, List.set_cons_succ, i64_w, i32_w]
            rfl
          refine pure_ (i := 33) (N := some 132) (v := ?_) (a' := ?_) #[true, true, true, true, true, true, true, true, true, true, true, true, true, true, true, true, true, true, true, true, true, true, true, true, true, true, true, true, true, true, true, true, true, true, false, false, false, false, false, false, false] rfl rfl (by kernel_rfl) (fun _ _ _ h => h) (Or.inl ⟨by rfl, ?_⟩) ?_ ?_
          rotate_left
          · intro w'
            go_simp
            with_reducible rfl
          rotate_left
          · simp only [Act.put, List.setIfInBounds_toArray, List.set_cons_zero, List.set_cons_succ, i64_w, i32_w]
            rfl
          refine pure_ (i := 34) (N := some 133) (v := ?_) (a' := ?_) #[true, true, true, true, true, true, true, true, true, true, true, true, true, true, true, true, true, true, true, true, true, true, true, true, true, true, true, true, true, true, true, true, true, true, true, false, false, false, false, false, false] rfl rfl (by kernel_rfl) (fun _ _ _ h => h) (Or.inl ⟨by rfl, ?_⟩) ?_ ?_
          rotate_left
          · intro w'
            go_simp
            with_reducible rfl
          rotate_left
          · simp only [Act.put, List.setIfInBounds_toArray, List.set_cons_zero, List.set_cons_succ, i64_w, i32_w]
            rfl
          refine pure_ (i := 35) (N := some 134) (v := ?_) (a' := ?_) #[true, true, true, true, true, true, true, true, true, true, true, true, true, true, true, true, true, true, true, true, true, true, true, true, true, true, true, true, true, true, true, true, true, true, true, true, false, false, false, false, false] rfl rfl (by kernel_rfl) (fun _ _ _ h => h) (Or.inl ⟨by rfl, ?_⟩) ?_ ?_
          rotate_left
          · intro w'
            go_simp
            with_reducible rfl
          rotate_left
          · simp only [Act.put, List.setIfInBounds_toArray, List.set_cons_zero, List.set_cons_succ, i64_w, i32_w]
            rfl
          refine pure_ (i := 36) (N := some 135) (v := ?_) (a' := ?_) #[true, true, true, true, true, true, true, true, true, true, true, true, true, true, true, true, true, true, true, true, true, true, true, true, true, true, true, true, true, true, true, true, true, true, true, true, true, false, false, false, false] rfl rfl (by kernel_rfl) (fun _ _ _ h => h) (Or.inl ⟨by rfl, ?_⟩) ?_ ?_
          rotate_left
          · intro w'
            go_simp
            with_reducible rfl
          rotate_left
          · simp only [Act.put, List.setIfInBounds_toArray, List.set_cons_zero, List.set_cons_succ, i64_w, i32_w]
            rfl
          refine take_ (i := 37) (N := some 136) (v := ?_) (a' := ?_) #[true, true, true, true, true, true, true, true, true, true, true, true, true, true, true, true, true, true, true, true, true, true, true, true, true, true, true, true, true, true, true, true, true, true, true, true, true, true, false, false, false] rfl rfl (by kernel_rfl) (fun _ _ _ h => h) (Or.inl ⟨by rfl, ?_⟩) hHeld ?_ ?_
          rotate_left
          · rintro w' ⟨s0, s1, s2, s3⟩
            go_simp
            with_reducible rfl
          rotate_left
          · simp only [Act.put, List.setIfInBounds_toArray, List.set_cons_zero, List.set_cons_succ, i64_w, i32_w]
            rfl
          refine take_ (i := 38) (N := some 137) (v := ?_) (a' := ?_) #[true, true, true, true, true, true, true, true, true, true, true, true, true, true, true, true, true, true, true, true, true, true, true, true, true, true, true, true, true, true, true, true, true, true, true, true, true, true, true, false, false] rfl rfl (by kernel_rfl) (fun _ _ _ h => h) (Or.inl ⟨by rfl, ?_⟩) hHeld ?_ ?_
          rotate_left
          · rintro w' ⟨s0, s1, s2, s3⟩
            go_simp
            with_reducible rfl
          rotate_left
          · simp only [Act.put, List.setIfInBounds_toArray, List.set_cons_zero, List.set_cons_succ, i64_w, i32_w]
            rfl
          refine pure_ (i := 39) (N := some 138) (v := ?_) (a' := ?_) #[true, true, true, true, true, true, true, true, true, true, true, true, true, true, true, true, true, true, true, true, true, true, true, true, true, true, true, true, true, true, true, true, true, true, true, true, true, true, true, true, false] rfl rfl (by kernel_rfl) (fun _ _ _ h => h) (Or.inl ⟨by rfl, ?_⟩) ?_ ?_
          rotate_left
          · intro w'
            go_simp
            with_reducible rfl
          rotate_left
          · simp only [Act.put, List.setIfInBounds_toArray, List.set_cons_zero, List.set_cons_succ, i64_w, i32_w]
            rfl
          refine pure_ (i := 40) (N := some 139) (v := ?_) (a' := ?_) #[true, true, true, true, true, true, true, true, true, true, true, true, true, true, true, true, true, true, true, true, true, true, true, true, true, true, true, true, true, true, true, true, true, true, true, true, true, true, true, true, true] rfl rfl (by kernel_rfl) (fun _ _ _ h => h) (Or.inl ⟨by rfl, ?_⟩) ?_ ?_
          rotate_left
          · intro w'
            go_simp
            with_reducible rfl
          rotate_left
          · simp only [Act.put, List.setIfInBounds_toArray, List.set_cons_zero, List.set_cons_succ, i64_w, i32_w]
            rfl
          refine done_ (by kernel_rfl) ?_
          clear hHeld u0 u1 u2 u3 u4 u5 u6 u7 d2
          rcases Nat.eq_zero_or_pos k with hk0 | hk0
          · have d3 : decide (0 < (k : Int)) = false := by rw [decide_eq_false_iff_not]; omega
            have d3' : decide (0 < k) = false := by rw [decide_eq_false_iff_not]; omega
            clear hk0
            go_wp2_with fail
            replace BA : Hid (w8.drew.heap[wr.heap.size]? = some (.cells #[.string rk, .int .i64 rn, .int .i64 ro] 35 (0, 0))) := BA.out
            replace HBa := Lib.hid HBa.out.drew
            replace HMa := Lib.hid HMa.out.drew
            refine start_ (n := 14) (S := fun w' => w'.cell? ⟨wr.heap.size, 0, none⟩ = some (.string rk) ∧ w'.cell? ⟨wr.heap.size, 1, none⟩ = some (.int .i64 rn) ∧ w'.cell? ⟨wr.heap.size, 2, none⟩ = some (.int .i64 ro)) (ds := []) #[false, false, false, false, false, false, false, false, false, false, false, false, false, false] (by kernel_rfl) rfl rfl ⟨(blk_cell BA.out 0), (blk_cell BA.out 1), (blk_cell BA.out 2)⟩ (fun hHeld => ?_)
            refine pure_ (i := 0) (N := some 140) (v := ?_) (a' := ?_) #[true, false, false, false, false, false, false, false, false, false, false, false, false, false] rfl rfl (by kernel_rfl) (fun _ _ _ h => h) (Or.inl ⟨by rfl, ?_⟩) ?_ ?_
            rotate_left
            · intro w'
              go_simp
              with_reducible rfl
            rotate_left
            · simp only [Act.put, List.setIfInBounds_toArray, List.set_cons_zero, List.set_cons_succ, i64_w, i32_w]
              rfl
            refine pure_ (i := 1) (N := some 141) (v := ?_) (a' := ?_) #[true, true, false, false, false, false, false, false, false, false, false, false, false, false] rfl rfl (by kernel_rfl) (fun _ _ _ h => h) (Or.inl ⟨by rfl, ?_⟩) ?_ ?_
            rotate_left
            · intro w'
              go_simp
              with_reducible rfl
            rotate_left
            · simp only [Act.put, List.setIfInBounds_toArray, List.set_cons_zero, List.set_cons_succ, i64_w, i32_w]
              rfl
            refine pure_ (i := 2) (N := some 142) (v := ?_) (a' := ?_) #[true, true, true, false, false, false, false, false, false, false, false, false, false, false] rfl rfl (by kernel_rfl) (fun _ _ _ h => h) (Or.inl ⟨by rfl, ?_⟩) ?_ ?_
            rotate_left
            · intro w'
              go_simp
              with_reducible rfl
            rotate_left
            · simp only [Act.put, List.setIfInBounds_toArray, List.set_cons_zero, List.set_cons_succ, i64_w, i32_w]
              rfl
            refine pure_ (i := 3) (N := some 143) (v := undef) (a' := ?_) #[true, true, true, true, false, false, false, false, false, false, false, false, false, false] rfl rfl (by kernel_rfl) (fun _ _ _ h => h) (Or.inr ⟨by rfl, rfl⟩) ?_ ?_
            rotate_left
            · simp only [Act.put, List.setIfInBounds_toArray, List.set_cons_zero, List.set_cons_succ, i64_w, i32_w]
              rfl
            refine pure_ (i := 4) (N := some 144) (v := undef) (a' := ?_) #[true, true, true, true, true, false, false, false, false, false, false, false, false, false] rfl rfl (by kernel_rfl) (fun _ _ _ h => h) (Or.inr ⟨by rfl, rfl⟩) ?_ ?_
            rotate_left
            · simp only [Act.put, List.setIfInBounds_toArray, List.set_cons_zero, List.set_cons_succ, i64_w, i32_w]
              rfl
            refine pure_ (i := 5) (N := some 145) (v := undef) (a' := ?_) #[true, true, true, true, true, true, false, false, false, false, false, false, false, false] rfl rfl (by kernel_rfl) (fun _ _ _ h => h) (Or.inr ⟨by rfl, rfl⟩) ?_ ?_
            rotate_left
            · simp only [Act.put, List.setIfInBounds_toArray, List.set_cons_zero, List.set_cons_succ, i64_w, i32_w]
              rfl
            refine pure_ (i := 6) (N := some 146) (v := undef) (a' := ?_) #[true, true, true, true, true, true, true, false, false, false, false, false, false, false] rfl rfl (by kernel_rfl) (fun _ _ _ h => h) (Or.inr ⟨by rfl, rfl⟩) ?_ ?_
            rotate_left
            · simp only [Act.put, List.setIfInBounds_toArray, List.set_cons_zero, List.set_cons_succ, i64_w, i32_w]
              rfl
            refine pure_ (i := 7) (N := some 147) (v := undef) (a' := ?_) #[true, true, true, true, true, true, true, true, false, false, false, false, false, false] rfl rfl (by kernel_rfl) (fun _ _ _ h => h) (Or.inr ⟨by rfl, rfl⟩) ?_ ?_
            rotate_left
            · simp only [Act.put, List.setIfInBounds_toArray, List.set_cons_zero, List.set_cons_succ, i64_w, i32_w]
              rfl
            refine pure_ (i := 8) (N := some 148) (v := undef) (a' := ?_) #[true, true, true, true, true, true, true, true, true, false, false, false, false, false] rfl rfl (by kernel_rfl) (fun _ _ _ h => h) (Or.inr ⟨by rfl, rfl⟩) ?_ ?_
            rotate_left
            · simp only [Act.put, List.setIfInBounds_toArray, List.set_cons_zero, List.set_cons_succ, i64_w, i32_w]
              rfl
            refine pure_ (i := 9) (N := some 149) (v := undef) (a' := ?_) #[true, true, true, true, true, true, true, true, true, true, false, false, false, false] rfl rfl (by kernel_rfl) (fun _ _ _ h => h) (Or.inr ⟨by rfl, rfl⟩) ?_ ?_
            rotate_left
            · simp only [Act.put, List.setIfInBounds_toArray, List.set_cons_zero, List.set_cons_succ, i64_w, i32_w]
              rfl
            refine pure_ (i := 10) (N := some 150) (v := undef) (a' := ?_) #[true, true, true, true, true, true, true, true, true, true, true, false, false, false] rfl rfl (by kernel_rfl) (fun _ _ _ h => h) (Or.inr ⟨by rfl, rfl⟩) ?_ ?_
            rotate_left
            · simp only [Act.put, List.setIfInBounds_toArray, List.set_cons_zero, List.set_cons_succ, i64_w, i32_w]
              rfl
            refine pure_ (i := 11) (N := some 151) (v := undef) (a' := ?_) #[true, true, true, true, true, true, true, true, true, true, true, true, false, false] rfl rfl (by kernel_rfl) (fun _ _ _ h => h) (Or.inr ⟨by rfl, rfl⟩) ?_ ?_
            rotate_left
            · simp only [Act.put, List.setIfInBounds_toArray, List.set_cons_zero, List.set_cons_succ, i64_w, i32_w]
              rfl
            refine pure_ (i := 12) (N := some 152) (v := undef) (a' := ?_) #[true, true, true, true, true, true, true, true, true, true, true, true, true, false] rfl rfl (by kernel_rfl) (fun _ _ _ h => h) (Or.inr ⟨by rfl, rfl⟩) ?_ ?_
            rotate_left
            · simp only [Act.put, List.setIfInBounds_toArray, List.set_cons_zero, List.set_cons_succ, i64_w, i32_w]
              rfl
            refine pure_ (i := 13) (N := some 153) (v := ?_) (a' := ?_) #[true, true, true, true, true, true, true, true, true, true, true, true, true, true] rfl rfl (by kernel_rfl) (fun _ _ _ h => h) (Or.inl ⟨by rfl, ?_⟩) ?_ ?_
            rotate_left
            · intro w'
              go_simp
              with_reducible rfl
            rotate_left
            · simp only [Act.put, List.setIfInBounds_toArray, List.set_cons_zero, List.set_cons_succ, i64_w, i32_w]
              rfl
            refine done_ (by kernel_rfl) ?_
            clear hHeld
            go_wp2
            go_roundg (L.length - (k + 1))
            case measure => omega
            case rel => exact ⟨k + 1, by omega, by go_num, HMa, HBa⟩
          · obtain ⟨j, rfl⟩ : ∃ j, k = j + 1 := ⟨k - 1, by omega⟩
            have hjn : j < L.length := by omega
            obtain ⟨b', f', d', q2, hb2, e2⟩ := CK.RowK.cell (HR.out.below HBa.out) hjn
            cases q2
            obtain ⟨pok, _, _⟩ := HOK.out L[j] (List.getElem_mem _)
            obtain ⟨⟨pk, pn, po⟩, hp⟩ : ∃ c : Rz, c = L[j] := ⟨_, rfl⟩
            have hcf : cfZ ⟨pk, pn, po⟩ ⟨rk, rn, ro⟩ ≤ 0 := by
              rw [hp, hr'.out]
              exact List.pairwise_iff_getElem.1 HLF.out.2.2 j (j + 1) hjn hkn (by omega)
            have hne : pk ≠ rk := fun h => by
              have h2 := HKY.out L[j] (List.getElem_mem _) L[j + 1] (List.getElem_mem _) (by rw [← hp, ← hr'.out]; exact h)
              have h3 := (List.getElem_inj HLF.out.2.1).1 h2
              omega
            rw [← hp] at e2 pok
            simp only [Rz.ok] at pok
            obtain ⟨y0, y1, y2, y3⟩ := pok
            have P0 : Hid (w8.cell? ⟨b, f + j * 3, none⟩ = some (.string pk)) := (e2 0 (by omega)).trans rfl
            have P1 : Hid (w8.cell? ⟨b, f + j * 3 + 1, none⟩ = some (.int .i64 pn)) := (e2 1 (by omega)).trans rfl
            have P2 : Hid (w8.cell? ⟨b, f + j * 3 + 2, none⟩ = some (.int .i64 po)) := (e2 2 (by omega)).trans rfl
            have hbl : Hid (b < w8.heap.size) := Nat.lt_of_lt_of_le hb2 (Nat.le_refl _)
            clear e2 hp hb2
            obtain ⟨c, hc⟩ : ∃ c, c = cmpR (pn, po + 1) (rn, ro + 1) := ⟨_, rfl⟩
            have hc2 := hc
            rw [cmpR, hld_ok y0 (by omega), hld_ok g0 (by omega)] at hc2
            have n1 := (rises_next hcf hne c hc2).1
            have HC := Lib.hid hc
            clear hc hc2 hcf hne hk0
            have c1 : decide (c < 0) = false := by rw [decide_eq_false_iff_not]; omega
            have d3 : decide (0 < ((j : Int) + 1)) = true := by rw [decide_eq_true_iff]; omega
            have d3' : decide (0 < j + 1) = true := by rw [decide_eq_true_iff]; omega
            go_wp2_with fail
            replace BA : Hid (w8.drew.heap[wr.heap.size]? = some (.cells #[.string rk, .int .i64 rn, .int .i64 ro] 35 (0, 0))) := BA.out
            replace HBa := Lib.hid HBa.out.drew
            replace HMa := Lib.hid HMa.out.drew
            replace P0 : Hid (w8.drew.cell? ⟨b, f + j * 3, none⟩ = some (.string pk)) := P0.out
            replace P1 : Hid (w8.drew.cell? ⟨b, f + j * 3 + 1, none⟩ = some (.int .i64 pn)) := P1.out
            replace P2 : Hid (w8.drew.cell? ⟨b, f + j * 3 + 2, none⟩ = some (.int .i64 po)) := P2.out
            replace hbl : Hid (b < w8.drew.heap.size) := hbl.out
            have z1 : 0 ≤ (j : Int) := by omega
            have z2 : (j : Int) < (L.length : Int) := by omega
            have z4 : IntKind.i64.wrap (j : Int) = (j : Int) := IntWalk.i64_in _ (by omega)
            have z3 : wrap64 (j : Int) = (j : Int) := by clear z4; unfold wrap64; omega
            refine start_ (n := 14) (S := fun w' => w'.cell? ⟨wr.heap.size, 0, none⟩ = some (.string rk) ∧ w'.cell? ⟨wr.heap.size, 1, none⟩ = some (.int .i64 rn) ∧ w'.cell? ⟨wr.heap.size, 2, none⟩ = some (.int .i64 ro) ∧ w'.cell? ⟨b, f + j * 3, none⟩ = some (.string pk) ∧ w'.cell? ⟨b, f + j * 3 + 1, none⟩ = some (.int .i64 pn) ∧ w'.cell? ⟨b, f + j * 3 + 2, none⟩ = some (.int .i64 po)) (ds := []) #[false, false, false, false, false, false, false, false, false, false, false, false, false, false] (by kernel_rfl) rfl rfl ⟨(blk_cell BA.out 0), (blk_cell BA.out 1), (blk_cell BA.out 2), P0.out, P1.out, P2.out⟩ (fun hHeld => ?_)
            refine pure_ (i := 0) (N := some 140) (v := ?_) (a' := ?_) #[true, false, false, false, false, false, false, false, false, false, false, false, false, false] rfl rfl (by kernel_rfl) (fun _ _ _ h => h) (Or.inl ⟨by rfl, ?_⟩) ?_ ?_
            rotate_left
            · intro w'
              go_simp
              with_reducible rfl
            rotate_left
            · simp only [Act.put, List.setIfInBounds_toArray, List.set_cons_zero, List.set_cons_succ, i64_w, i32_w]
              rfl
            refine pure_ (i := 1) (N := some 141) (v := ?_) (a' := ?_) #[true, true, false, false, false, false, false, false, false, false, false, false, false, false] rfl rfl (by kernel_rfl) (fun _ _ _ h => h) (Or.inl ⟨by rfl, ?_⟩) ?_ ?_
            rotate_left
            · intro w'
              go_simp
              with_reducible rfl
            rotate_left
            · simp only [Act.put, List.setIfInBounds_toArray, List.set_cons_zero, List.set_cons_succ, i64_w, i32_w]
              rfl
            refine pure_ (i := 2) (N := some 142) (v := ?_) (a' := ?_) #[true, true, true, false, false, false, false, false, false, false, false, false, false, false] rfl rfl (by kernel_rfl) (fun _ _ _ h => h) (Or.inl ⟨by rfl, ?_⟩) ?_ ?_
            rotate_left
            · intro w'
              go_simp
              with_reducible rfl
            rotate_left
            · simp only [Act.put, List.setIfInBounds_toArray, List.set_cons_zero, List.set_cons_succ, i64_w, i32_w]
              rfl
            refine pure_ (i := 3) (N := some 143) (v := ?_) (a' := ?_) #[true, true, true, true, false, false, false, false, false, false, false, false, false, false] rfl rfl (by kernel_rfl) (fun _ _ _ h => h) (Or.inl ⟨by rfl, ?_⟩) ?_ ?_
            rotate_left
            · intro w'
              go_simp
              with_reducible rfl
            rotate_left
            · simp only [Act.put, List.setIfInBounds_toArray, List.set_cons_zero, List.set_cons_succ, i64_w, i32_w]
              rfl
            refine pure_ (i := 4) (N := some 144) (v := ?_) (a' := ?_) #[true, true, true, true, true, false, false, false, false, false, false, false, false, false] rfl rfl (by kernel_rfl) (fun _ _ _ h => h) (Or.inl ⟨by rfl, ?_⟩) ?_ ?_
            rotate_left
            · intro w'
              go_simp
              with_reducible rfl
            rotate_left
            · simp only [Act.put, List.setIfInBounds_toArray, List.set_cons_zero, List.set_cons_succ, i64_w, i32_w]
              rfl
            refine pure_ (i := 5) (N := some 145) (v := ?_) (a' := ?_) #[true, true, true, true, true, true, false, false, false, false, false, false, false, false] rfl rfl (by kernel_rfl) (fun _ _ _ h => h) (Or.inl ⟨by rfl, ?_⟩) ?_ ?_
            rotate_left
            · intro w'
              go_simp
              with_reducible rfl
            rotate_left
            · simp only [Act.put, List.setIfInBounds_toArray, List.set_cons_zero, List.set_cons_succ, i64_w, i32_w]
              rfl
            refine pure_ (i := 6) (N := some 146) (v := ?_) (a' := ?_) #[true, true, true, true, true, true, true, false, false, false, false, false, false, false] rfl rfl (by kernel_rfl) (fun _ _ _ h => h) (Or.inl ⟨by rfl, ?_⟩) ?_ ?_
            rotate_left
            · intro w'
              go_simp
              with_reducible rfl
            rotate_left
            · simp only [Act.put, List.setIfInBounds_toArray, List.set_cons_zero, List.set_cons_succ, i64_w, i32_w]
              rfl
            refine take_ (i := 7) (N := some 147) (v := ?_) (a' := ?_) #[true, true, true, true, true, true, true, true, false, false, false, false, false, false] rfl rfl (by kernel_rfl) (fun _ _ _ h => h) (Or.inl ⟨by rfl, ?_⟩) hHeld ?_ ?_
            rotate_left
            · rintro w' ⟨s0, s1, s2, s3, s4, s5⟩
              go_simp
              with_reducible rfl
            rotate_left
            · simp only [Act.put, List.setIfInBounds_toArray, List.set_cons_zero, List.set_cons_succ, i64_w, i32_w]
              rfl
            refine take_ (i := 9) (N := some 149) (v := ?_) (a' := ?_) #[true, true, true, true, true, true, true, true, false, true, false, false, false, false] rfl rfl (by kernel_rfl) (fun _ _ _ h => h) (Or.inl ⟨by rfl, ?_⟩) hHeld ?_ ?_
            rotate_left
            · rintro w' ⟨s0, s1, s2, s3, s4, s5⟩
              go_simp
              with_reducible rfl
            rotate_left
            · simp only [Act.put, List.setIfInBounds_toArray, List.set_cons_zero, List.set_cons_succ, i64_w, i32_w]
              rfl
            refine one_ (i := 8) (N := some 148) #[true, true, true, true, true, true, true, true, true, true, false, false, false, false] rfl rfl (by kernel_rfl) (by decide) (fun K hK => ?_)
            refine goes_ Try.func21 (by kernel_rfl) rfl #[.agg #[.string pk, .int .i64 pn, .int .i64 po]] (by rfl) rfl rfl (by (try simp only [List.map_toArray, List.map_cons, List.map_nil]); first | done | rfl) ?_
            with_reducible refine (ratio_calls _ _ _ _ y0 y1 y2 y3).mono ?_
            rintro e w10 ⟨rfl, hg⟩
            refine ⟨_, rfl, ?_⟩
            have hb := hg.below
            replace BA := Lib.hid (blk_below BA.out hb (blk_lt BA.out))
            replace HMa := Lib.hid (HMa.out.below hb HMa.out.lt)
            replace HBa := Lib.hid (HBa.out.trans ((show Below _ _ _ from hb).mono HBa.out.size))
            replace P0 := Lib.hid ((hb.cell (p := ⟨b, f + j * 3, none⟩) hbl.out).trans P0.out)
            replace P1 := Lib.hid ((hb.cell (p := ⟨b, f + j * 3 + 1, none⟩) hbl.out).trans P1.out)
            replace P2 := Lib.hid ((hb.cell (p := ⟨b, f + j * 3 + 2, none⟩) hbl.out).trans P2.out)
            replace hbl := Lib.hid (Nat.lt_of_lt_of_le hbl.out hb.size)
            clear hb hg
            refine hK.out _ _ ⟨(blk_cell BA.out 0), (blk_cell BA.out 1), (blk_cell BA.out 2), P0.out, P1.out, P2.out⟩ (fun hHeld => ?_)
            clear hK K
            refine norm_ (a' := ?_) ?_ ?_
            rotate_left
            · show Act.put _ (some 148) _ = _
              simp only [Act.put, List.setIfInBounds_toArray, List.set_cons_zero, List.set_cons_succ, i64_w, i32_w]
              rfl
            refine one_ (i := 10) (N := some 150) #[true, true, true, true, true, true, true, true, true, true, true, false, false, false] rfl rfl (by kernel_rfl) (by decide) (fun K hK => ?_)
            refine goes_ Try.func21 (by kernel_rfl) rfl #[.agg #[.string rk, .int .i64 rn, .int .i64 ro]] (by rfl) rfl rfl (by (try simp only [List.map_toArray, List.map_cons, List.map_nil]); first | done | rfl) ?_
            with_reducible refine (ratio_calls _ _ _ _ g0 g1 g2 g3).mono ?_
            rintro e w11 ⟨rfl, hg⟩
            refine ⟨_, rfl, ?_⟩
            have hb := hg.below
            replace BA := Lib.hid (blk_below BA.out hb (blk_lt BA.out))
            replace HMa := Lib.hid (HMa.out.below hb HMa.out.lt)
            replace HBa := Lib.hid (HBa.out.trans ((show Below _ _ _ from hb).mono HBa.out.size))
            replace P0 := Lib.hid ((hb.cell (p := ⟨b, f + j * 3, none⟩) hbl.out).trans P0.out)
            replace P1 := Lib.hid ((hb.cell (p := ⟨b, f + j * 3 + 1, none⟩) hbl.out).trans P1.out)
            replace P2 := Lib.hid ((hb.cell (p := ⟨b, f + j * 3 + 2, none⟩) hbl.out).trans P2.out)
            replace hbl := Lib.hid (Nat.lt_of_lt_of_le hbl.out hb.size)
            clear hb hg
            refine hK.out _ _ ⟨(blk_cell BA.out 0), (blk_cell BA.out 1), (blk_cell BA.out 2), P0.out, P1.out, P2.out⟩ (fun hHeld => ?_)
            clear hK K
            refine norm_ (a' := ?_) ?_ ?_
            rotate_left
            · show Act.put _ (some 150) _ = _
              simp only [Act.put, List.setIfInBounds_toArray, List.set_cons_zero, List.set_cons_succ, i64_w, i32_w]
              rfl
            refine one_ (i := 11) (N := some 151) #[true, true, true, true, true, true, true, true, true, true, true, true, false, false] rfl rfl (by kernel_rfl) (by decide) (fun K hK => ?_)
            refine goes_ Try.func20 (by kernel_rfl) rfl #[.agg #[.int .i64 pn, .int .i64 (po + 1)], .agg #[.int .i64 rn, .int .i64 (ro + 1)]] (by rfl) rfl rfl (by (try simp only [List.map_toArray, List.map_cons, List.map_nil]); first | done | rfl) ?_
            with_reducible refine (compareR_calls pn (po + 1) rn (ro + 1) _ (by omega) (by omega) (by omega) (by omega)).mono ?_
            rintro e w12 ⟨rfl, hg⟩
            refine ⟨_, rfl, ?_⟩
            rw [← HC.out]
            have hb := hg.below
            replace BA := Lib.hid (blk_below BA.out hb (blk_lt BA.out))
            replace HMa := Lib.hid (HMa.out.below hb HMa.out.lt)
            replace HBa := Lib.hid (HBa.out.trans ((show Below _ _ _ from hb).mono HBa.out.size))
            replace P0 := Lib.hid ((hb.cell (p := ⟨b, f + j * 3, none⟩) hbl.out).trans P0.out)
            replace P1 := Lib.hid ((hb.cell (p := ⟨b, f + j * 3 + 1, none⟩) hbl.out).trans P1.out)
            replace P2 := Lib.hid ((hb.cell (p := ⟨b, f + j * 3 + 2, none⟩) hbl.out).trans P2.out)
            replace hbl := Lib.hid (Nat.lt_of_lt_of_le hbl.out hb.size)
            clear hb hg
            refine hK.out _ _ ⟨(blk_cell BA.out 0), (blk_cell BA.out 1), (blk_cell BA.out 2), P0.out, P1.out, P2.out⟩ (fun hHeld => ?_)
            clear hK K
            refine norm_ (a' := ?_) ?_ ?_
            rotate_left
            · show Act.put _ (some 151) _ = _
              simp only [Act.put, List.setIfInBounds_toArray, List.set_cons_zero, List.set_cons_succ, i64_w, i32_w]
              rfl
            refine pure_ (i := 12) (N := some 152) (v := ?_) (a' := ?_) #[true, true, true, true, true, true, true, true, true, true, true, true, true, false] rfl rfl (by kernel_rfl) (fun _ _ _ h => h) (Or.inl ⟨by rfl, ?_⟩) ?_ ?_
            rotate_left
            · intro w'
              go_simp
              with_reducible rfl
            rotate_left
            · simp only [Act.put, List.setIfInBounds_toArray, List.set_cons_zero, List.set_cons_succ, i64_w, i32_w]
              rfl
            refine pure_ (i := 13) (N := some 153) (v := ?_) (a' := ?_) #[true, true, true, true, true, true, true, true, true, true, true, true, true, true] rfl rfl (by kernel_rfl) (fun _ _ _ h => h) (Or.inl ⟨by rfl, ?_⟩) ?_ ?_
            rotate_left
            · intro w'
              go_simp
              with_reducible rfl
            rotate_left
            · simp only [Act.put, List.setIfInBounds_toArray, List.set_cons_zero, List.set_cons_succ, i64_w, i32_w]
              rfl
            refine done_ (by kernel_rfl) ?_
            clear hHeld z1 z2 z3 z4
            go_wp2
            go_roundg (L.length - (j + 1 + 1))
            case measure => omega
            case rel => exact ⟨j + 1 + 1, by omega, by go_num, HMa, HBa⟩
        · obtain rfl : k = L.length := by omega
          rw [List.take_length] at HM
          obtain ⟨wz, hwz⟩ : ∃ wz, wz = wr := ⟨_, rfl⟩
          subst hwz
          have HKz : Hid (MapT Try.prog 9 Value.string (Value.int .i64) wz w4.heap.size KM) := HK.out.below HB2.out HK.out.lt
          clear hkn hkm
          go_wp2_with (at_range; refine wpList_rangeT _ rfl _ _ rfl _ _ Try.underlying28 Value.string (Value.int .i64) w4.heap.size KM rfl HKz.out ?_; intro w0 hit hb0 hs0)
          go_frame
          have HM0 := Lib.hid (HM.out.below hb0 HM.out.lt)
          have HBz := Lib.hid (HB2.out.trans (hb0.mono HB2.out.size))
          have hrl := HM.out.lt
          obtain ⟨r, hr⟩ : ∃ r, r = wz.heap.size := ⟨_, rfl⟩
          rw [← hr] at hit hrl
          rw [← hr]
          have HRr := Lib.hid hrl
          clear hr hs0 hb0 HM HB2 HKz hrl
          go_loopg [] KM.length (fun m wr => ∃ vis left, m = left.length ∧ IterT Try.prog 9 Value.string (Value.int .i64) wr r w4.heap.size KM vis left ∧ Hid (MapT Try.prog 9 Value.string (Value.int .i64) wr w6.heap.size (toldM L)) ∧ Hid (Below w6.heap.size w6 wr))
          case atStart => exact ⟨[], KM, rfl, hit, HM0, HBz⟩
          case round =>
            clear HM0 HBz
            obtain ⟨vis, left, rfl, hit, HT, HB3⟩ := hrel
            go_wp2_with (at_next; refine wpList_nextT _ rfl _ rfl _ Value.string (Value.int .i64) r w4.heap.size KM vis left rfl hit ?_ ?_)
            · intro hl
              clear hl hit
              go_wp2
              go_ret
              exact ⟨rfl, HB.out.trans (HB3.out.mono HB.out.size)⟩
            · intro s n r1 r2 w' hl hit' hfr hsz hen
              have hen' := hen w' rfl rfl
              have HL := Lib.hid hl
              have HI' := Lib.hid hit'
              obtain ⟨hn0, hn1, HEX⟩ := HKF.out (s, n) (HI'.out.perm.mem_iff.1 (by simp))
              have HEX := Lib.hid HEX
              have HTw : Hid (MapT Try.prog 9 Value.string (Value.int .i64) w' w6.heap.size (toldM L)) := HT.out.fr hfr (by have := HRr.out; simp; omega)
              have HBw : Hid (Below w6.heap.size w6 w') := HB3.out.trans (hfr.below HB3.out.size (by have := HRr.out; simp; omega))
              have HPw : Hid (PanesAt w' p W (cntOf LL) pb (sumsOf W LL)) := HP.out.below HBw.out
              clear hl hit hit' hfr hsz hen hn0 hn1
              go_wp2_with fail
              refine (HSUM.out _ s HPw.out).mono ?_
              rintro e' w8 ⟨rfl, hb⟩
              replace HTw := Lib.hid (HTw.out.below hb HTw.out.lt)
              replace HBw := Lib.hid (HBw.out.trans ((show Below _ _ _ from hb).mono HBw.out.size))
              replace HI' := Lib.hid (HI'.out.same (hb.block _ HI'.out.lt.2.1) (hb.block _ HI'.out.lt.1))
              obtain ⟨N, hN⟩ : ∃ N, N = rangeSum LL s (b0 - sp) b0 := ⟨_, rfl⟩
              rw [← hN]
              have HN := Lib.hid hN
              clear hb hN hen' HPw
              by_cases c1 : fl ≤ N
              · by_cases c2 : 0 < N
                · have hrun : (Instr.lookup 28 (.map (some w6.heap.size)) (.string s) false).run Try.prog w8 = .ok (.int .i64 1) w8 := by
                    obtain ⟨a, ha, hk⟩ := HEX.out
                    obtain ⟨x', hx, hxk⟩ := HIN.out a ha (by rw [hk]; show fl ≤ rangeSum LL s (b0 - sp) b0; rw [← HN.out]; exact c1) (by rw [hk]; show 0 < rangeSum LL s (b0 - sp) b0; rw [← HN.out]; exact c2)
                    have hks := HKS.out a ha
                    have e := toldM_some hx
                    rw [hxk, hk] at e
                    rw [hk] at hks
                    exact told_run HTw.out (by unfold maxLen; show s.size ≤ _; have : s.size ≤ 24 := hks; omega) (by show ((lookA (toldM L) s).map (Value.int .i64)).getD (.int .i64 0) = _; rw [show lookA (toldM L) s = some 1 from e]; rfl)
                  go_wp2
                  go_roundg (r1 ++ r2).length
                  case measure => rw [HL.out]; simp; try omega
                  case rel => exact ⟨vis ++ [(s, n)], r1 ++ r2, rfl, HI'.out, HTw, HBw⟩
                · go_wp2
                  go_roundg (r1 ++ r2).length
                  case measure => rw [HL.out]; simp; try omega
                  case rel => exact ⟨vis ++ [(s, n)], r1 ++ r2, rfl, HI'.out, HTw, HBw⟩
              · go_wp2
                all_goals
                  go_roundg (r1 ++ r2).length
                  case measure => rw [HL.out]; simp; try omega
                  case rel => exact ⟨vis ++ [(s, n)], r1 ++ r2, rfl, HI'.out, HTw, HBw⟩
end Go.Proofs.Ytmddlbgdmdepdaa
