/- The top law's own few and counts, at adds of small numbers. No condition. -/
import Derived.Test.YtmddlbgdmdepdaaArgs
import Derived.Test.YtmddlbgdmdepdaaWinJ
import Derived.OpenShut
set_option linter.unusedVariables false
set_option linter.unusedSimpArgs false
set_option maxRecDepth 100000
namespace Go.Proofs.Ytmddlbgdmdepdaa
open Go.Maps Go.MapKept Go.RowKit Go.ChangeMaps CK Go.Proofs.YtmddlbgdmdepdaaW.PrintLast

theorem weight_calls (w : World) : Calls Try.prog 40 #[.int .i64 0, .int .i64 5] w (IntPost w 1048576) := by
  go_enter Try.func40, Try.ntmps40
  go_wp2
  go_ret
  exact ⟨rfl, Below.refl _ _⟩
theorem counts_calls (w : World) : Calls Try.prog 14 #[] w (BoolPost w true) := by
  go_enter Try.func14, Try.ntmps14
  go_wp2_with fail
  refine (new_calls _ _).mono ?_
  rintro e w1 ⟨p, b, rfl, hp, h1, h2, h3⟩
  rw [show min (max (10 : Int) 1) 1099511627776 = 10 by omega] at hp
  have HP := Lib.hid hp
  have HB := Lib.hid h3
  have HG : Hid (w.heap.size ≤ p ∧ w.heap.size ≤ b) := ⟨h1, h2⟩
  clear hp h1 h2 h3
  go_wp2_with fail
  refine (add_calls _ p 10 _ b _ ⟨#[97]⟩ 5 3 HP.out (by decide)).mono ?_
  rintro e w2 ⟨rfl, hfr, hpa⟩
  have ht : takes 0 ⟨#[97]⟩ 5 3 = true := by decide +kernel
  rw [ht, if_pos rfl, if_pos rfl] at hpa
  rw [ht]
  have HP := Lib.hid hpa
  have HB := Lib.hid (HB.out.trans (hfr.below HB.out.size (by have := HG.out; simp; omega)))
  clear hpa hfr ht
  go_wp2_with fail
  refine (sum_calls _ p 10 _ b _ ⟨#[97]⟩ 0 10 HP.out (by omega) (by omega) (by omega) (by omega)).mono ?_
  rintro e w3 ⟨rfl, hb⟩
  have hps : psum (addTo [] ⟨#[97]⟩ (5 / 10) 3) ⟨#[97]⟩ (0 / 10) (10 / 10) = 3 := by decide +kernel
  rw [hps]
  have HB := Lib.hid (HB.out.trans ((show Below _ _ _ from hb).mono HB.out.size))
  clear hb hps
  go_wp2_with fail
  refine (weight_calls _).mono ?_
  rintro e w4 ⟨rfl, hb⟩
  have HB := Lib.hid (HB.out.trans ((show Below _ _ _ from hb).mono HB.out.size))
  clear hb
  go_wp2
  go_ret
  exact ⟨rfl, HB.out⟩

theorem tadds_cell {w : World} {l : List TAdd} {v : Value} (h : TAddsAt w l v) {k : Nat} (hk : k < l.length) : ∃ b o cap, v = .slice (some ⟨b, o, none⟩) l.length cap ∧ b < w.heap.size ∧ l[k].ok ∧ w.cell? ⟨b, o + k * 3, none⟩ = some (.string l[k].key) ∧ w.cell? ⟨b, o + k * 3 + 1, none⟩ = some (.int .u16 l[k].at_) ∧ w.cell? ⟨b, o + k * 3 + 2, none⟩ = some (.int .u16 l[k].n) := by
  rcases h with ⟨rfl, _⟩ | ⟨b, o, cap, rfl, _, _, _, h3, h4⟩
  · simp at hk
  · obtain ⟨h5, h6, h7, h8⟩ := TAddsAt.cells h4 k hk
    exact ⟨b, o, cap, rfl, h3, h5, h6, h7, h8⟩

def fewB (l : List TAdd) : Bool := l.all (fun a => decide (a.key.size ≤ 24)) && decide (l.length ≤ 60)
set_option maxHeartbeats 400000 in
theorem few_calls (w : World) (l : List TAdd) (v : Value) (h : TAddsAt w l v) : Calls Try.prog 15 #[v] w (BoolPost w (fewB l)) := by
  have HL := Lib.hid h
  obtain ⟨so, scap, rfl, hmx⟩ := SliceR.shape h
  have hmx : l.length ≤ 9223372036854775807 := by unfold maxLen at *; omega
  clear h
  go_enter Try.func15, Try.ntmps15
  go_wp2
  go_loopg [7] l.length (fun m i wr => ∃ k : Nat, k + m = l.length ∧ i = .int .i64 k ∧ Hid (Below w.heap.size w wr) ∧ Hid (∀ i (h : i < l.length), i < k → l[i].key.size ≤ 24))
  case atStart => exact ⟨0, by omega, rfl, Below.refl _ _, fun i hi => by omega⟩
  case round =>
    obtain ⟨k, hk, rfl, HB, HK⟩ := hrel
    by_cases hkn : k < l.length
    · obtain ⟨b, off, cap, heq, hblt, hok, e0, e1, e2⟩ := tadds_cell (HL.out.below HB.out) hkn
      cases heq
      obtain ⟨a, ha⟩ : ∃ a, a = l[k] := ⟨_, rfl⟩
      rw [← ha] at e0 e1 e2
      have HA := Lib.hid ha
      clear ha hok
      by_cases hs : 24 < a.key.size
      · go_wp2
        go_ret
        refine ⟨ret_bool ?_, (HB.out).alloc HB.out.size _⟩
        symm
        simp only [fewB, Bool.and_eq_false_iff, List.all_eq_false, decide_eq_true_eq]
        exact .inl ⟨a, by rw [HA.out]; exact List.getElem_mem _, by omega⟩
      · go_wp2
        go_roundg (l.length - (k + 1))
        case measure => omega
        case rel =>
          refine ⟨k + 1, by omega, by go_num, HB.out.alloc HB.out.size _, fun i hi hik => ?_⟩
          rcases Nat.lt_or_ge i k with h | h
          · exact HK.out i hi h
          · obtain rfl : i = k := by omega
            rw [← HA.out]; omega
    · obtain rfl : k = l.length := by omega
      go_wp2
      go_ret
      refine ⟨ret_bool ?_, HB.out⟩
      unfold fewB
      have : l.all (fun a => decide (a.key.size ≤ 24)) = true := by
        rw [List.all_eq_true]
        intro a ha
        obtain ⟨i, hi, rfl⟩ := List.mem_iff_getElem.1 ha
        simpa using HK.out i hi hi
      rw [this]
      simp only [Bool.true_and]
      rw [decide_eq_decide]
      omega
def TAdd.add (a : TAdd) : Add := ⟨a.key, a.at_, a.n⟩
theorem TAdd.bd {a : TAdd} (h : a.ok) : 0 ≤ a.at_ ∧ a.at_ ≤ 65535 ∧ 0 ≤ a.n ∧ a.n ≤ 65535 := ⟨(bounds_u16 h.2.1).1, (bounds_u16 h.2.1).2, (bounds_u16 h.2.2).1, (bounds_u16 h.2.2).2⟩
theorem TAdd.right {a : TAdd} (h : a.ok) (h1 : 1 ≤ a.key.size) (h2 : a.key.size ≤ 24) : rightB a.add = true := by
  have := TAdd.bd h
  unfold rightB
  simp only [Bool.and_eq_true, decide_eq_true_eq]
  exact ⟨⟨⟨⟨⟨h1, h2⟩, this.1⟩, Int.le_trans this.2.1 (by omega)⟩, this.2.2.1⟩, Int.le_trans this.2.2.2 (by omega)⟩
theorem TAdd.wrong {a : TAdd} (h1 : a.key.size = 0) : rightB a.add = false := by
  simp only [rightB, TAdd.add, h1]; rfl
end Go.Proofs.Ytmddlbgdmdepdaa
