/- The contract of window.Top, by a walk. No condition. -/
import Derived.Test.YtmddlbgdmdepdaaCmpB
import Derived.Test.YtmddlbgdmdepdaaKeyC
import Derived.Test.YtmddlbgdmdepdaaWinJ
set_option linter.unusedVariables false
set_option linter.unusedSimpArgs false
set_option maxRecDepth 100000
namespace Go.Proofs.Ytmddlbgdmdepdaa
open Go.Maps Go.MapKept Go.RowKit Go.ChangeMaps Go.Shelf CK

def encS (s : ByteArray) : List Value := [.string s]
/-- Keys' row as a list of texts -/
def KeysP (w : World) (ks : List ByteArray) (e : Ending) (w' : World) : Prop := ∃ (v : Value) (l : List ByteArray), e = .returned v ∧ l.Perm ks ∧ CK.RowK encS 1 w' l v ∧ Below w.heap.size w w'
theorem keysP_of {w w' : World} {ks : List ByteArray} {e : Ending} (h : KeysPost w ks e w') : KeysP w ks e w' := by
  obtain ⟨v, ss, h1, h2, h3, h4⟩ := h
  refine ⟨v, (ss.mergeSort (fun x y => decide (x ≤ y))).map fun l => (⟨l.toArray⟩ : ByteArray), h1, ?_, ?_, h4⟩
  · have a1 := ((List.mergeSort_perm ss (fun x y => decide (x ≤ y))).trans h2).map fun l => (⟨l.toArray⟩ : ByteArray)
    rw [List.map_map] at a1
    refine a1.trans (List.Perm.of_eq ?_)
    have : ((fun l => (⟨l.toArray⟩ : ByteArray)) ∘ fun s : ByteArray => s.data.toList) = id := by
      funext s
      rfl
    rw [this, List.map_id]
  · refine CK.rowK_of_own (enc := encS) (k := 1) (fun _ => rfl) (B := w.heap.size) (e := 9) ?_
    have e1 : ((ss.mergeSort (fun x y => decide (x ≤ y))).map fun l => (⟨l.toArray⟩ : ByteArray)).flatMap encS = (ss.mergeSort (fun x y => decide (x ≤ y))).map Go.Proofs.encStr := by
      rw [List.flatMap_map]
      induction (ss.mergeSort (fun x y => decide (x ≤ y))) with
      | nil => rfl
      | cons a r ih => rw [List.flatMap_cons, List.map_cons, ih]; rfl
    rw [e1, List.length_map, (List.mergeSort_perm ss _).length_eq]
    exact h3
theorem infoCount : (Try.prog.info? 55).map (fun i => (i.zero, i.size, i.bytes)) = some (some (.agg #[.string ⟨#[]⟩, .int .i64 0]), 2, 24) := by kernel_rfl
/-- the counts of some panes' keys, from f up to e -/
def cntsOf (m : Sums) (ks : List ByteArray) (f e : Int) : List Cn := ks.map fun k => (k, psum m k f e)
/-- window.Top hands back counts -/
def TopPost (w : World) (l : List Cn) (e : Ending) (w' : World) : Prop := ∃ v, e = .returned v ∧ CK.RowK encC 2 w' l v ∧ Below w.heap.size w w'

theorem top_nil (w : World) (sz hp e n : Int) : Calls Try.prog 26 #[.pointer none, .agg #[.int .i64 sz, .int .i64 hp], .int .i64 e, .int .i64 n] w (TopPost w []) := by
  have HB : Hid (Below w.heap.size w (w.alloc (.cells #[.int .i64 sz, .int .i64 hp] 44))) := (Below.refl _ w).alloc (Nat.le_refl _) _
  go_enter Try.func26, Try.ntmps26
  go_wp2_with fail
  refine (isEnd_nil _ _ _ _).mono ?_
  rintro e' w1 ⟨rfl, hb⟩
  have HB := Lib.hid (HB.out.trans ((show Below _ _ _ from hb).mono HB.out.size))
  clear hb
  go_wp2
  go_ret
  exact ⟨_, rfl, .inl ⟨rfl, _, _, rfl, Nat.zero_le _⟩, HB.out⟩
theorem cell_two_newC (w : World) (s : ByteArray) (n : Int) (j : Nat) (u : Value) (h : ([.string s, .int .i64 n] : List Value)[j]? = some u) : (w.alloc (.cells #[.string s, .int .i64 n] 55)).cell? ((⟨w.heap.size, 0, none⟩ : Addr).add j) = some u := by
  have h0 := blk_cell (blk_new w (.cells #[.string s, .int .i64 n] 55 (0, 0))) j
  have e1 : ((⟨w.heap.size, 0, none⟩ : Addr).add j) = ⟨w.heap.size, j, none⟩ := by
    unfold Addr.add; split
    · rename_i hj; rw [hj]
    · simp
  rw [e1, h0]
  simpa using h
set_option maxHeartbeats 2000000 in
theorem top_no (w : World) (sz hp e n : Int) (p : Nat) (wd ad : Int) (b : Nat) (m : Sums) (h : PanesAt w p wd ad b m) (hc : (mayB sz hp wd && endB hp e) = false) :
    Calls Try.prog 26 #[.pointer (some ⟨p, 0, none⟩), .agg #[.int .i64 sz, .int .i64 hp], .int .i64 e, .int .i64 n] w (TopPost w []) := by
  have HP0 := Lib.hid h
  clear h
  have BK : Hid ((w.alloc (.cells #[.int .i64 sz, .int .i64 hp] 44)).heap[w.heap.size]? = some (.cells #[.int .i64 sz, .int .i64 hp] 44 (0, 0))) := blk_new w _
  have HB : Hid (Below w.heap.size w (w.alloc (.cells #[.int .i64 sz, .int .i64 hp] 44))) := (Below.refl _ w).alloc (Nat.le_refl _) _
  have HP : Hid (PanesAt (w.alloc (.cells #[.int .i64 sz, .int .i64 hp] 44)) p wd ad b m) := HP0.out.below HB.out
  clear HP0
  have HC := Lib.hid hc
  clear hc
  go_enter Try.func26, Try.ntmps26
  go_wp2_with fail
  refine (isEnd_calls _ sz hp e p wd ad b m HP.out).mono ?_
  rintro e' w1 ⟨rfl, hb⟩
  rw [HC.out]
  have HB := Lib.hid (HB.out.trans ((show Below _ _ _ from hb).mono HB.out.size))
  clear hb
  go_wp2
  go_ret
  exact ⟨_, rfl, .inl ⟨rfl, _, _, rfl, Nat.zero_le _⟩, HB.out⟩
/-- the counts of keys of a window, the first n -/
def TopOf (w : World) (m : Sums) (f e n : Int) (e' : Ending) (w' : World) : Prop := ∃ ks : List ByteArray, ks.Perm (keysIn m f e) ∧ TopPost w ((sortC (cntsOf m ks f e)).take (min (max n 0) ks.length).toNat) e' w'
set_option maxHeartbeats 2000000 in
theorem top_calls (w : World) (sz hp e n : Int) (p : Nat) (wd ad : Int) (b : Nat) (m : Sums) (h : PanesAt w p wd ad b m) (hm : m.length ≤ 1048576) (hc : (mayB sz hp wd && endB hp e) = true) :
    Calls Try.prog 26 #[.pointer (some ⟨p, 0, none⟩), .agg #[.int .i64 sz, .int .i64 hp], .int .i64 e, .int .i64 n] w (TopOf w m ((e - sz) / wd) (e / wd) n) := by
  have HP0 := Lib.hid h
  clear h
  have BK : Hid ((w.alloc (.cells #[.int .i64 sz, .int .i64 hp] 44)).heap[w.heap.size]? = some (.cells #[.int .i64 sz, .int .i64 hp] 44 (0, 0))) := blk_new w _
  have HB : Hid (Below w.heap.size w (w.alloc (.cells #[.int .i64 sz, .int .i64 hp] 44))) := (Below.refl _ w).alloc (Nat.le_refl _) _
  have HP : Hid (PanesAt (w.alloc (.cells #[.int .i64 sz, .int .i64 hp] 44)) p wd ad b m) := HP0.out.below HB.out
  clear HP0
  have hc' := hc
  simp only [mayB, fitsB, endB, Bool.and_eq_true, decide_eq_true_eq] at hc'
  obtain ⟨⟨_, ⟨⟨h3, h4⟩, _⟩, ⟨⟨h1, h2⟩, _⟩, _⟩, h5, h6, _⟩ := hc'
  have HC := Lib.hid hc
  clear hc
  obtain ⟨i0, hi, hz0, hz1, hz2⟩ := info_parts infoCount
  have hw1 : wrap64 (e - sz) = e - sz := by unfold wrap64; omega
  go_enter Try.func26, Try.ntmps26
  go_wp2_with fail
  refine (isEnd_calls _ sz hp e p wd ad b m HP.out).mono ?_
  rintro e' w1 ⟨rfl, hb⟩
  rw [HC.out]
  have HP := Lib.hid (HP.out.below hb)
  have BK := Lib.hid (blk_below BK.out hb (blk_lt BK.out))
  have HB := Lib.hid (HB.out.trans ((show Below _ _ _ from hb).mono HB.out.size))
  clear hb
  have c0 := (blk_cell BK.out 0).trans rfl
  go_wp2_with fail
  refine ((keys_calls _ p wd ad b m (e - sz) e HP.out (by omega) (by omega) (by omega) (by omega) hm).mono fun _ _ h => keysP_of h).mono ?_
  rintro e' w2 ⟨v, ks, rfl, hpm, hrow, hb⟩
  have HP := Lib.hid (HP.out.below hb)
  have BK := Lib.hid (blk_below BK.out hb (blk_lt BK.out))
  have HB := Lib.hid (HB.out.trans ((show Below _ _ _ from hb).mono HB.out.size))
  have HPM := Lib.hid hpm
  have HRW := Lib.hid hrow
  have hkl : ks.length ≤ 1048576 := by rw [hpm.length_eq]; exact Nat.le_trans (keysIn_len _ _ _) hm
  clear hb hpm hrow c0
  obtain ⟨so, scap, rfl, hmx⟩ := SliceR.shape HRW.out
  obtain ⟨f, hf⟩ : ∃ f, f = (e - sz) / wd := ⟨_, rfl⟩
  obtain ⟨g, hg⟩ : ∃ g, g = e / wd := ⟨_, rfl⟩
  rw [← hf, ← hg] at HPM
  rw [← hf, ← hg]
  have HFG : Hid (f = (e - sz) / wd ∧ g = e / wd) := ⟨hf, hg⟩
  clear hf hg
  obtain ⟨cs, hcs⟩ : ∃ cs, cs = cntsOf m ks f g := ⟨_, rfl⟩
  have hcl : cs.length = ks.length := by rw [hcs, cntsOf, List.length_map]
  have HCS := Lib.hid hcs
  have HCL := Lib.hid hcl
  clear hcs hcl
  go_wp2
  go_loopg [9, 25] ks.length (fun md v i wr => ∃ (k : Nat) (o : Option Addr) (cp : Nat), k + md = ks.length ∧ i = .int .i64 k ∧ v = .slice o k cp ∧ Hid (wr.ownsRow w2.heap.size 55 2 (.slice o k cp) k ((cs.take k).flatMap encC)) ∧ Hid (Below w2.heap.size w2 wr))
  case atStart => exact ⟨0, _, _, by omega, rfl, rfl, Lib.hid (by simpa using World.ownsRow_nil _ _ _ _), Below.refl _ _⟩
  case round =>
    obtain ⟨k, so', sc', hkm, rfl, rfl, HW, HB2⟩ := hrel
    by_cases hkn : k < ks.length
    · obtain ⟨rb, ro, rcap, heq, hblt, hcell⟩ := CK.RowK.cell (HRW.out.below HB2.out) hkn
      cases heq
      have e0 := (hcell 0 (by omega)).trans rfl
      simp only [Nat.mul_one, Nat.add_zero] at e0
      obtain ⟨key, hkey⟩ : ∃ key, key = ks[k] := ⟨_, rfl⟩
      have HTK : Hid (cs.take (k + 1) = cs.take k ++ [(key, psum m key f g)]) := by
        have h1 : k < cs.length := by rw [HCL.out]; exact hkn
        have h2 : cs[k] = (key, psum m key f g) := by simp only [HCS.out, cntsOf, List.getElem_map, hkey]
        rw [← h2]; exact List.take_succ_eq_append_getElem h1
      have e0' : wr.cell? ⟨rb, ro + k, none⟩ = some (.string key) := by rw [hkey]; exact e0
      have BKr := Lib.hid (blk_below BK.out HB2.out (blk_lt BK.out))
      have HPr := Lib.hid (HP.out.below HB2.out)
      have c0 := (blk_cell BKr.out 0).trans rfl
      clear hcell e0 hkey
      go_wp2_with fail
      refine (sum_calls _ p wd ad b m key (e - sz) e HPr.out (by omega) (by omega) (by omega) (by omega)).mono ?_
      rintro e' w3 ⟨rfl, hb⟩
      have hsz3 : wr.heap.size ≤ w3.heap.size := hb.size
      have HW3 : Hid (w3.ownsRow w2.heap.size 55 2 (.slice so' k sc') k ((cs.take k).flatMap encC)) := ownsRow_same HW.out fun j _ hj => hb.block j hj
      have HB3 := Lib.hid (HB2.out.trans (hb.mono HB2.out.size))
      have hbase : w2.heap.size ≤ w3.heap.size := HB3.out.size
      rw [← HFG.out.1, ← HFG.out.2]
      obtain ⟨N, hN⟩ : ∃ N, N = psum m key f g := ⟨_, rfl⟩
      rw [← hN]
      rw [← hN] at HTK
      clear hb hN e0' c0
      go_wp2_with (at_builtin; refine wpList_append_own _ rfl _ _ 48 rfl w2.heap.size 55 i0 (.agg #[.string ⟨#[]⟩, .int .i64 0]) 2 24 Try.underlying48 hi hz0 hz1 hz2 rfl (by decide) _ _ _ rfl (HW3.out.alloc _) ⟨w3.heap.size, 0, none⟩ 1 1 [.string key, .int .i64 N] rfl rfl ?c1 ?c2 ?c3 ?c4 ?c5 ?_)
      case c1 => exact cell_two_newC _ _ _
      case c2 => exact fun x hx => by simp at hx; rcases hx with rfl | rfl <;> rfl
      case c3 => unfold maxLen; omega
      case c4 => omega
      case c5 => simp; omega
      intro v' w4 hown' hgrow _
      have hb4 : Below w2.heap.size w3 w4 := below_append HW3.out hbase hgrow
      have HO := Lib.hid hown'
      have HB4 := Lib.hid (HB3.out.trans hb4)
      clear hown' hgrow hb4
      obtain ⟨so2, sc2, rfl⟩ := ownsRow_shape HO.out
      go_wp2
      go_roundg (ks.length - (k + 1))
      case measure => omega
      case rel =>
        refine ⟨k + 1, _, _, by omega, by go_num, rfl, ?_, HB4⟩
        show World.ownsRow _ _ _ _ _ _ _
        have := HO.out
        rw [HTK.out, List.flatMap_append]
        exact this
    · obtain rfl : k = ks.length := by omega
      have HO : Hid (wr.ownsRow w2.heap.size 55 2 (.slice so' cs.length sc') cs.length (cs.flatMap encC)) := by
        have := HW.out
        rw [← HCL.out, List.take_length] at this
        exact this
      have hcl := HCL.out
      have hcap : ks.length ≤ sc' := by
        have hrow := CK.rowK_of_own encC_len HO.out
        rcases hrow with ⟨h0, _⟩ | ⟨_, _, _, h0, _, h1, _⟩
        · rw [h0] at hcl; simp at hcl; omega
        · cases h0; omega
      have hcl2 : cs.length < 4611686018427387904 := by omega
      have HCL2 := Lib.hid hcl2
      have HBw := Lib.hid (HB.out.trans (HB2.out.mono HB.out.size))
      go_wp2_with fail
      rw [← hcl]
      clear hcl hcl2
      refine (sortCount_calls wr w2.heap.size cs _ HB2.out.size HO.out HCL2.out).mono ?_
      rintro e' w5 ⟨rfl, hrow, hb⟩
      rw [HCL.out] at hrow ⊢
      have HRO := Lib.hid hrow
      have HB5 := Lib.hid (HB.out.trans ((show Below _ _ _ from HB2.out.trans hb).mono HB.out.size))
      clear hrow hb
      have fin : ∀ c : Nat, (c : Int) = min (max n 0) ks.length → TopOf w m f g n (.returned (.slice so' c sc')) w5 := fun c hc => by
        refine ⟨ks, HPM.out, _, rfl, ?_, HB5.out⟩
        rw [← HCS.out]
        have hs : (sortC cs).length = ks.length := (sortC_perm cs).length_eq.trans HCL.out
        have h0 := CK.RowK.take HRO.out c (by omega) (o := so') (cap := sc') (by rw [hs])
        rw [show (min (max n 0) (ks.length : Int)).toNat = c by omega]
        exact h0
      have HF := Lib.hid fin
      clear fin
      rw [HFG.out.1, HFG.out.2] at HF
      go_wp2
      go_ret
      exact HF.out _ (by omega)
end Go.Proofs.Ytmddlbgdmdepdaa
