/- The contracts of the document's Less, First, Same over counts, by walks. No condition. -/
import Derived.Test.YtmddlbgdmdepdaaTopW
set_option linter.unusedVariables false
set_option linter.unusedSimpArgs false
set_option maxRecDepth 100000
namespace Go.Proofs.Ytmddlbgdmdepdaa
open Go.Maps Go.MapKept Go.RowKit Go.ChangeMaps Go.Shelf CK Go.Proofs.YtmddlbgdmdepdaaW.PrintLast

theorem bl_cb (a b : ByteArray) : Op.bytesLess a.toList b.toList = decide (Lib.compareBytes a.data.toList b.data.toList < 0) := by
  rw [ByteArray.toList_eq, ByteArray.toList_eq]
  have : ∀ x y : List UInt8, Op.bytesLess x y = decide (Lib.compareBytes x y < 0) := by
    intro x
    induction x with
    | nil => intro y; cases y <;> simp [Op.bytesLess, Lib.compareBytes]
    | cons a r ih =>
      intro y
      cases y with
      | nil => simp [Op.bytesLess, Lib.compareBytes]
      | cons b s =>
        rw [Op.bytesLess, Lib.compareBytes, ih s]
        by_cases h1 : a < b
        · simp [h1]
        · by_cases h2 : b < a
          · have : a ≠ b := fun e => by subst e; exact UInt8.lt_irrefl _ h2
            simp [h1, h2, this]
          · simp [u8_eq h1 h2]
  exact this _ _
theorem lss_eq (a b : Cn) : (decide (b.2 < a.2) || ((a.2 == b.2) && Op.bytesLess a.1.toList b.1.toList)) = ltOf cfC a b := by
  rw [Bool.eq_iff_iff, ltC, bl_cb]
  simp
  rw [eq_comm (a := a.2)]
set_option maxHeartbeats 1000000 in
theorem less_calls (a b : Cn) (w : World) : Calls Try.prog 30 #[.agg #[.string a.1, .int .i64 a.2], .agg #[.string b.1, .int .i64 b.2]] w (BoolPost w (ltOf cfC a b)) := by
  obtain ⟨ak, an⟩ := a
  obtain ⟨bk, bn⟩ := b
  show Calls Try.prog _ #[.agg #[.string ak, .int .i64 an], .agg #[.string bk, .int .i64 bn]] w _
  have HF : Hid (∀ r : Bool, r = ltOf cfC (ak, an) (bk, bn) → BoolPost w (ltOf cfC (ak, an) (bk, bn)) (.returned (.bool r)) ((w.alloc (.cells #[.string ak, .int .i64 an] 55)).alloc (.cells #[.string bk, .int .i64 bn] 55))) := fun r hr => ⟨ret_bool hr, ((Below.refl _ w).alloc (Nat.le_refl _) _).alloc (by simp) _⟩
  go_enter Try.func30, Try.ntmps30
  go_wp2
  all_goals
    go_ret
    first
    | (refine HF.out _ ?_; rw [← lss_eq]; simp [*]; done)
    | (subst_vars; refine HF.out _ ?_; rw [← lss_eq]; simp [*]; done)
    | sorry
theorem first_calls (w : World) (l : List Cn) (v : Value) (n : Int) (h : CK.RowK encC 2 w l v) : Calls Try.prog 29 #[v, .int .i64 n] w (TopPost w (l.take (min (max n 0) l.length).toNat)) := by
  have HR := Lib.hid h
  obtain ⟨so, cap, rfl, hmx⟩ := SliceR.shape h
  have hcap : l.length ≤ cap := by
    rcases h with ⟨h0, _, _, h1, _⟩ | ⟨_, _, _, h0, _, h1, _⟩
    · rw [h0]; simp
    · cases h0; omega
  have hl : l.length ≤ 9223372036854775807 := by unfold maxLen at *; omega
  have HF : Hid (∀ c : Nat, (c : Int) = min (max n 0) l.length → TopPost w (l.take (min (max n 0) l.length).toNat) (.returned (.slice so c cap)) w) := fun c hc => by
    refine ⟨_, rfl, ?_, Below.refl _ _⟩
    rw [show (min (max n 0) (l.length : Int)).toNat = c by omega]
    exact CK.RowK.take HR.out c (by omega) rfl
  clear h
  go_enter Try.func29, Try.ntmps29
  go_wp2
  all_goals
    go_ret
    first
    | exact HF.out 0 (by omega)
    | exact HF.out _ (by omega)
    | (have h9 := HF.out n.toNat (by omega); exact h9)
set_option maxHeartbeats 1000000 in
theorem sameC_calls (w : World) (l1 l2 : List Cn) (v1 v2 : Value) (h1 : CK.RowK encC 2 w l1 v1) (h2 : CK.RowK encC 2 w l2 v2) (heq : l1 = l2) : Calls Try.prog 25 #[v1, v2] w (BoolPost w true) := by
  subst heq
  have H1 := Lib.hid h1
  have H2 := Lib.hid h2
  obtain ⟨o1, c1, rfl, hmx⟩ := SliceR.shape h1
  obtain ⟨o2, c2, rfl, _⟩ := SliceR.shape h2
  have hl : l1.length ≤ 9223372036854775807 := by unfold maxLen at *; omega
  clear h1 h2
  go_enter Try.func25, Try.ntmps25
  go_wp2
  go_loopg [5] l1.length (fun m i wr => ∃ k : Nat, k + m = l1.length ∧ i = .int .i64 k ∧ Hid (Below w.heap.size w wr))
  case atStart => exact ⟨0, by omega, rfl, Below.refl _ _⟩
  case round =>
    obtain ⟨k, hkm, rfl, HB⟩ := hrel
    by_cases hkn : k < l1.length
    · obtain ⟨b1, f1, d1, q1, hb1, e1⟩ := CK.RowK.cell (H1.out.below HB.out) hkn
      obtain ⟨b2, f2, d2, q2, hb2, e2⟩ := CK.RowK.cell (H2.out.below HB.out) hkn
      cases q1
      cases q2
      obtain ⟨⟨ck, cn⟩, hc⟩ : ∃ c : Cn, c = l1[k] := ⟨_, rfl⟩
      rw [← hc] at e1 e2
      have a0 : wr.cell? ⟨b1, f1 + k * 2, none⟩ = some (.string ck) := (e1 0 (by omega)).trans rfl
      have a1 : wr.cell? ⟨b1, f1 + k * 2 + 1, none⟩ = some (.int .i64 cn) := (e1 1 (by omega)).trans rfl
      have a2 : wr.cell? ⟨b2, f2 + k * 2, none⟩ = some (.string ck) := (e2 0 (by omega)).trans rfl
      have a3 : wr.cell? ⟨b2, f2 + k * 2 + 1, none⟩ = some (.int .i64 cn) := (e2 1 (by omega)).trans rfl
      clear e1 e2 hc
      go_wp2
      go_quiet (fail)
      go_wp2
      go_roundg (l1.length - (k + 1))
      case measure => omega
      case rel => exact ⟨k + 1, by omega, by go_num, below_drewN HB.out _⟩
    · obtain rfl : k = l1.length := by omega
      go_wp2
      go_ret
      exact ⟨rfl, HB.out⟩
end Go.Proofs.Ytmddlbgdmdepdaa
