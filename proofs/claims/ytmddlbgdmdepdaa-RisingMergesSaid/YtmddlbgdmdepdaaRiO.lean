/- The contracts of the document's Sum, Of and May of rises, by walks. No condition. -/
import Derived.Test.YtmddlbgdmdepdaaRiN
import Derived.Test.YtmddlbgdmdepdaaWinJ
set_option linter.unusedVariables false
set_option linter.unusedSimpArgs false
set_option maxRecDepth 100000
namespace Go.Proofs.Ytmddlbgdmdepdaa
open Go.Maps Go.MapKept Go.RowKit Go.ChangeMaps CK Go.Proofs.YtmddlbgdmdepdaaW.PrintLast

theorem adds_at {w : World} {l : List Add} {v : Value} (h : AddsAt w l v) {k : Nat} (hk : k < l.length) : ∃ b o cap, v = .slice (some ⟨b, o, none⟩) l.length cap ∧ b < w.heap.size ∧ l[k].ok ∧ w.cell? ⟨b, o + k * 3, none⟩ = some (.string l[k].key) ∧ w.cell? ⟨b, o + k * 3 + 1, none⟩ = some (.int .i64 l[k].at_) ∧ w.cell? ⟨b, o + k * 3 + 2, none⟩ = some (.int .i64 l[k].n) := by
  rcases h with ⟨rfl, _⟩ | ⟨b, o, cap, rfl, _, _, _, h3, h4⟩
  · simp at hk
  · obtain ⟨h5, h6, h7, h8⟩ := AddsAt.cells h4 k hk
    exact ⟨b, o, cap, rfl, h3, h5, h6, h7, h8⟩
theorem rangeSum_bd (l : List Add) (key : ByteArray) (f e : Int) : 0 ≤ rangeSum l key f e ∧ rangeSum l key f e ≤ l.length * 1048576 := by
  induction l with
  | nil => simp [rangeSum]
  | cons a r ih =>
    simp only [rangeSum, List.filter_cons] at *
    cases h : (rightB a && decide (a.key = key) && (decide (f ≤ a.at_) && decide (a.at_ < e)))
    · simp; omega
    · have : rightB a = true := by simp only [Bool.and_eq_true] at h; exact h.1.1
      simp only [rightB, Bool.and_eq_true, decide_eq_true_eq] at this
      simp; omega
set_option maxHeartbeats 2000000 in
theorem rsum_calls (w : World) (l : List Add) (v : Value) (key : ByteArray) (f e : Int) (h : AddsAt w l v) (hl : l.length ≤ 60) :
    Calls Try.prog 82 #[v, .string key, .int .i64 f, .int .i64 e] w (IntPost w (rangeSum l key f e)) := by
  obtain ⟨so, scap, rfl, _⟩ := SliceR.shape h
  have HL := Lib.hid h
  clear h
  go_enter Try.func82, Try.ntmps82
  go_wp2
  go_loopg [9, 10] l.length (fun m s i wr => ∃ k : Nat, k + m = l.length ∧ i = .int .i64 k ∧ s = .int .i64 (rangeSum (l.take k) key f e) ∧ Hid (Below w.heap.size w wr))
  case atStart => exact ⟨0, by omega, rfl, by simp [rangeSum], Below.refl _ _⟩
  case round =>
    obtain ⟨k, hk, rfl, rfl, HB⟩ := hrel
    by_cases hkn : k < l.length
    · obtain ⟨b, off, cap, heq, h13, hok, e0, e1, e2⟩ := adds_at HL.out hkn
      cases heq
      obtain ⟨a, ha⟩ : ∃ a, a = l[k] := ⟨_, rfl⟩
      rw [← ha] at e0 e1 e2 hok
      have k0 := (HB.out.cell (p := ⟨b, off + k * 3, none⟩) h13).trans e0
      have k1 := (HB.out.cell (p := ⟨b, off + k * 3 + 1, none⟩) h13).trans e1
      have k2 := (HB.out.cell (p := ⟨b, off + k * 3 + 2, none⟩) h13).trans e2
      have htk : l.take (k + 1) = l.take k ++ [a] := by rw [ha, List.take_succ_eq_append_getElem hkn]
      have hsn := congrArg (fun l => rangeSum l key f e) htk |>.trans (rangeSum_snoc _ _ _ _ _)
      have hbd := rangeSum_bd (l.take k) key f e
      have hbl : ((l.take k).length : Int) ≤ 60 := by have := List.length_take_le k l; omega
      have HLl : Hid (b < wr.heap.size) := Nat.lt_of_lt_of_le h13 HB.out.size
      obtain ⟨S, hS⟩ : ∃ S, S = rangeSum (l.take k) key f e := ⟨_, rfl⟩
      rw [← hS]
      rw [← hS] at hbd hsn
      have HSN := Lib.hid hsn
      clear e0 e1 e2 hok ha htk hS hsn
      cases hr : rightB a
      · have HR := Lib.hid hr
        have HS : Hid (S = rangeSum (l.take (k + 1)) key f e) := by show _ = _; rw [HSN.out, HR.out]; simp
        clear hr
        go_wp2_with fail
        refine (right_calls _ a).mono ?_
        rintro e' w1 ⟨rfl, hb⟩
        rw [HR.out]
        replace HB := Lib.hid (HB.out.trans ((show Below _ _ _ from hb).mono HB.out.size))
        clear hb k0 k1 k2
        go_wp2
        go_roundg (l.length - (k + 1))
        case measure => omega
        case rel => exact ⟨k + 1, by omega, by go_num, by rw [HS.out], HB⟩
      · have HR := Lib.hid hr
        have hn : 0 ≤ a.n ∧ a.n ≤ 1048576 := by
          simp only [rightB, Bool.and_eq_true, decide_eq_true_eq] at hr; exact ⟨hr.1.2, hr.2⟩
        clear hr
        go_wp2_with fail
        refine (right_calls _ a).mono ?_
        rintro e' w1 ⟨rfl, hb⟩
        rw [HR.out]
        have k0' := (hb.cell (p := ⟨b, off + k * 3, none⟩) HLl.out).trans k0
        have k1' := (hb.cell (p := ⟨b, off + k * 3 + 1, none⟩) HLl.out).trans k1
        have k2' := (hb.cell (p := ⟨b, off + k * 3 + 2, none⟩) HLl.out).trans k2
        replace HB := Lib.hid (HB.out.trans ((show Below _ _ _ from hb).mono HB.out.size))
        clear hb k0 k1 k2
        by_cases h1 : a.key = key
        · have d1 : (a.key.toList == key.toList) = true := by rw [h1]; simp
          have H1 := Lib.hid h1
          clear h1
          by_cases h2 : f ≤ a.at_
          · have d2 : decide (f ≤ a.at_) = true := by simpa using h2
            by_cases h3 : a.at_ < e
            · have d3 : decide (a.at_ < e) = true := by simpa using h3
              have HS : Hid (S + a.n = rangeSum (l.take (k + 1)) key f e) := by show _ = _; rw [HSN.out, HR.out, d2, d3]; simp [H1.out]
              go_wp2
              go_roundg (l.length - (k + 1))
              case measure => omega
              case rel => exact ⟨k + 1, by omega, by go_num, by rw [HS.out], HB⟩
            · have d3 : decide (a.at_ < e) = false := by simpa using h3
              have HS : Hid (S = rangeSum (l.take (k + 1)) key f e) := by show _ = _; rw [HSN.out, d3]; simp
              go_wp2
              go_roundg (l.length - (k + 1))
              case measure => omega
              case rel => exact ⟨k + 1, by omega, by go_num, by rw [HS.out], HB⟩
          · have d2 : decide (f ≤ a.at_) = false := by simpa using h2
            have HS : Hid (S = rangeSum (l.take (k + 1)) key f e) := by show _ = _; rw [HSN.out, d2]; simp
            go_wp2
            go_roundg (l.length - (k + 1))
            case measure => omega
            case rel => exact ⟨k + 1, by omega, by go_num, by rw [HS.out], HB⟩
        · have d1 : (a.key.toList == key.toList) = false := by rw [beq_eq_false_iff_ne]; exact fun h' => h1 (ba_eq.1 h')
          have HS : Hid (S = rangeSum (l.take (k + 1)) key f e) := by show _ = _; rw [HSN.out]; simp [h1]
          clear h1
          go_wp2
          go_roundg (l.length - (k + 1))
          case measure => omega
          case rel => exact ⟨k + 1, by omega, by go_num, by rw [HS.out], HB⟩
    · obtain rfl : k = l.length := by omega
      have HS : Hid (rangeSum (l.take l.length) key f e = rangeSum l key f e) := by show _ = _; rw [List.take_length]
      go_wp2
      go_ret
      exact ⟨ret_int HS.out, HB.out⟩
/-- may a span be, for a width, and now? -/
def mayR (wd sp now : Int) : Bool := decide (1 ≤ sp) && decide (sp ≤ 1099511627776) && decide (sp % wd = 0) && decide (0 ≤ now) && decide (now ≤ 1099511627776)
theorem rmayR_calls (w : World) (wd sp now : Int) (hw : 1 ≤ wd) : Calls Try.prog 60 #[.int .i64 wd, .int .i64 sp, .int .i64 now] w (BoolPost w (mayR wd sp now)) := by
  have HB : Hid (Below w.heap.size w w) := Below.refl _ _
  by_cases h1 : 1 ≤ sp
  · by_cases h2 : sp ≤ 1099511627776
    · have hm : (sp % wd == 0) = decide (sp % wd = 0) := rfl
      by_cases h3 : sp % wd = 0
      · have d3 : (sp % wd == 0) = true := by simp [h3]
        by_cases h4 : 0 ≤ now
        · have HR : Hid (decide (now ≤ 1099511627776) = mayR wd sp now) := by show _ = _; simp [mayR, h1, h2, h3, h4]
          clear h3 hm
          go_enter Try.func60, Try.ntmps60
          go_wp2
          all_goals
            go_ret
            exact ⟨ret_bool (by rw [← HR.out] <;> (symm; simp; omega)), HB.out⟩
        · have HR : Hid (mayR wd sp now = false) := by show _ = _; simp [mayR, h4]
          rw [HR.out]
          clear h3 hm
          go_enter Try.func60, Try.ntmps60
          go_wp2
          go_ret
          exact ⟨rfl, HB.out⟩
      · have d3 : (sp % wd == 0) = false := by simp [h3]
        have HR : Hid (mayR wd sp now = false) := by show _ = _; simp [mayR, h3]
        rw [HR.out]
        clear h3 hm
        go_enter Try.func60, Try.ntmps60
        go_wp2
        go_ret
        exact ⟨rfl, HB.out⟩
    · have HR : Hid (mayR wd sp now = false) := by show _ = _; simp [mayR, h2]
      rw [HR.out]
      go_enter Try.func60, Try.ntmps60
      go_wp2
      go_ret
      exact ⟨rfl, HB.out⟩
  · have HR : Hid (mayR wd sp now = false) := by show _ = _; simp [mayR, h1]
    rw [HR.out]
    go_enter Try.func60, Try.ntmps60
    go_wp2
    go_ret
    exact ⟨rfl, HB.out⟩
theorem mod_le {a b : Int} (ha : 0 ≤ a) (hb : 1 ≤ b) : a % b ≤ a := by
  have h1 := Int.emod_add_mul_ediv a b
  have h2 := Int.mul_nonneg (show 0 ≤ b by omega) (Int.ediv_nonneg ha (show 0 ≤ b by omega))
  omega
/-- a key's rise -/
def riseOf (l : List Add) (wd sp now : Int) (key : ByteArray) : Rz := ⟨key, rangeSum l key (now - now % wd - sp) (now - now % wd), rangeSum l key (now - now % wd - 2 * sp) (now - now % wd - sp)⟩
set_option maxHeartbeats 1000000 in
theorem rof_calls (w : World) (l : List Add) (v : Value) (wd sp now : Int) (key : ByteArray) (h : AddsAt w l v) (hl : l.length ≤ 60) (hw : 1 ≤ wd) (h1 : 1 ≤ sp) (h2 : sp ≤ 1099511627776) (h3 : 0 ≤ now) (h4 : now ≤ 1099511627776) :
    Calls Try.prog 61 #[v, .int .i64 wd, .int .i64 sp, .int .i64 now, .string key] w fun e w' => e = .returned (.agg #[.string key, .int .i64 (riseOf l wd sp now key).nw, .int .i64 (riseOf l wd sp now key).od]) ∧ Below w.heap.size w w' := by
  have HL := Lib.hid h
  clear h
  obtain ⟨so, scap, rfl, _⟩ := SliceR.shape HL.out
  have hmod0 : 0 ≤ now % wd := Int.emod_nonneg _ (by omega)
  have hmod1 : now % wd ≤ now := mod_le h3 hw
  have BK : Hid ((w.alloc (.cells #[.string ⟨#[]⟩, .int .i64 0, .int .i64 0] 35)).heap[w.heap.size]? = some (.cells #[.string ⟨#[]⟩, .int .i64 0, .int .i64 0] 35 (0, 0))) := blk_new w _
  have HB : Hid (Below w.heap.size w (w.alloc (.cells #[.string ⟨#[]⟩, .int .i64 0, .int .i64 0] 35))) := (Below.refl _ w).alloc (Nat.le_refl _) _
  replace HL : Hid (AddsAt (w.alloc (.cells #[.string ⟨#[]⟩, .int .i64 0, .int .i64 0] 35)) l (.slice so l.length scap)) := HL.out.below HB.out
  obtain ⟨N, hN⟩ : ∃ N, N = (riseOf l wd sp now key).nw := ⟨_, rfl⟩
  obtain ⟨D, hD⟩ : ∃ D, D = (riseOf l wd sp now key).od := ⟨_, rfl⟩
  rw [← hN, ← hD]
  have HN := Lib.hid hN
  have HD := Lib.hid hD
  clear hN hD
  go_enter Try.func61, Try.ntmps61
  go_wp2_with fail
  refine (rsum_calls _ l _ key (now - now % wd - sp) (now - now % wd) HL.out hl).mono ?_
  rintro e w1 ⟨rfl, hb⟩
  replace BK := Lib.hid (blk_below BK.out hb (blk_lt BK.out))
  replace HL := Lib.hid (HL.out.below hb)
  replace HB := Lib.hid (HB.out.trans ((show Below _ _ _ from hb).mono HB.out.size))
  rw [show rangeSum l key (now - now % wd - sp) (now - now % wd) = N by rw [HN.out]; rfl]
  clear hb
  go_wp2_with fail
  refine (rsum_calls _ l _ key (now - now % wd - 2 * sp) (now - now % wd - sp) HL.out hl).mono ?_
  rintro e w2 ⟨rfl, hb⟩
  replace BK := Lib.hid (blk_below BK.out hb (blk_lt BK.out))
  replace HB := Lib.hid (HB.out.trans ((show Below _ _ _ from hb).mono HB.out.size))
  rw [show rangeSum l key (now - now % wd - 2 * sp) (now - now % wd - sp) = D by rw [HD.out]; rfl]
  have c0 := (blk_cell BK.out 0).trans rfl
  have c1 := (blk_cell BK.out 1).trans rfl
  have c2 := (blk_cell BK.out 2).trans rfl
  have f0 := blk_free BK.out 0
  have f1 := blk_free BK.out 1
  have f2 := blk_free BK.out 2
  clear hb HL
  go_wp2
  refine bodyPost_ret (results_cell_row rfl _ _ w.heap.size 35 #[.string key, .int .i64 N, .int .i64 D] (0, 0) _ rfl (blk_set (blk_set (blk_set BK.out _) _) _) Try.underlying35 rfl (by kernel_rfl)) rfl ⟨rfl, ?_⟩
  exact ((HB.out.setCell (Nat.le_refl _) _).setCell (Nat.le_refl _) _).setCell (Nat.le_refl _) _
end Go.Proofs.Ytmddlbgdmdepdaa
