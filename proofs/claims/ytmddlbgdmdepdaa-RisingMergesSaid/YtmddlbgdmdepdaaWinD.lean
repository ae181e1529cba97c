/- The contracts of the law's own helpers awake, same and of the document's Ends, by walks. No condition. -/
import Derived.Test.YtmddlbgdmdepdaaWinC
set_option linter.unusedVariables false
set_option linter.unusedSimpArgs false
set_option maxRecDepth 100000
namespace Go.Proofs.Ytmddlbgdmdepdaa
open Go.Maps Go.MapKept Go.RowKit Go.ChangeMaps CK Go.Proofs.YtmddlbgdmdepdaaW.PrintLast

theorem ownsRow_open {w : World} {B : Nat} {e : TypeId} {s : Nat} {v : Value} {n : Nat} {xs : List Value} (h : w.ownsRow B e s v n xs) (hn : 0 < n) :
    ∃ g cp, v = .slice (some ⟨g, 0, none⟩) n cp ∧ n ≤ cp ∧ B ≤ g ∧ g < w.heap.size ∧ ∀ i, i < n * s → w.cell? ⟨g, i, none⟩ = xs[i]? := by
  obtain ⟨h0, h⟩ := h
  rcases h with ⟨rfl, rfl⟩ | ⟨g, cp, cur, rfl, h1, h2, h3, h4, h5, h6⟩
  · omega
  · refine ⟨g, cp, rfl, h3, h1, blk_lt h2, fun i hi => ?_⟩
    rw [blk_cell h2, ← h6, List.getElem?_take_of_lt hi]
    simp

theorem abv_at (hop first : Int) (n i : Nat) (h : i < n) : (abv hop first n)[i]? = some (.int .i64 (first + (i : Int) * hop)) := by
  simp [abv, h]

theorem awake_calls (w : World) : Calls Try.prog 23 #[] w (BoolPost w true) := by
  go_enter Try.func23, Try.ntmps23
  go_wp2_with fail
  refine (holds_calls _ 20 10 12 (by decide) (by omega) (by omega)).mono ?_
  rintro e w1 ⟨n, v, rfl, hown, hall, hlast, hb⟩
  have hfst : firstE 12 10 = 20 := by decide
  rw [hfst] at hown hall hlast
  have hn : n = 2 := by
    rcases Nat.lt_or_ge n 2 with h | h
    · exfalso; apply hlast; unfold more; simp; omega
    · rcases Nat.lt_or_ge 2 n with h2 | h2
      · have := (hall 2 h2).2; simp at this
      · omega
  subst hn
  obtain ⟨g, cp, rfl, hcp, hg0, hg1, hc⟩ := ownsRow_open hown (by omega)
  have hc0 : w1.cell? ⟨g, 0, none⟩ = some (.int .i64 20) := by rw [hc 0 (by omega), abv_at _ _ _ _ (by omega)]; rfl
  have hc1 : w1.cell? ⟨g, 1, none⟩ = some (.int .i64 30) := by rw [hc 1 (by omega), abv_at _ _ _ _ (by omega)]; rfl
  have HB := Lib.hid hb
  clear hown hall hlast hb hc hfst
  go_wp2_with fail
  go_outline
  refine (holds_calls _ 10 30 12 (by decide) (by omega) (by omega)).mono ?_
  rintro e w2 ⟨n, v, rfl, hown, hall, hlast, hb2⟩
  have hfst : firstE 12 30 = 30 := by decide
  rw [hfst] at hown hall hlast
  have hn : n = 0 := by
    rcases Nat.lt_or_ge 0 n with h | h
    · have := (hall 0 h).2; simp at this
    · omega
  subst hn
  obtain ⟨o, cp2, rfl⟩ := ownsRow_shape hown
  have HB2 := Lib.hid hb2
  clear hown hall hlast hb2 hfst
  go_wp2
  go_ret
  exact ⟨rfl, HB.out.trans (HB2.out.mono HB.out.size)⟩
end Go.Proofs.Ytmddlbgdmdepdaa
