/- The contracts of the law's own same and of the document's Ends, by walks. No condition. -/
import Derived.Test.YtmddlbgdmdepdaaWinD
import Derived.Test.YtmddlbgdmdepdaaArgs
set_option linter.unusedVariables false
set_option linter.unusedSimpArgs false
set_option maxRecDepth 100000
namespace Go.Proofs.Ytmddlbgdmdepdaa
open Go.Maps Go.MapKept Go.RowKit Go.ChangeMaps CK Go.Proofs.YtmddlbgdmdepdaaW.PrintLast

def IntsAt (w : World) (l : List Int) (v : Value) : Prop := SliceR 1 (fun _ n cs => cs = [.int .i64 n]) w l v
theorem IntsAt.below {w w' : World} {l : List Int} {v : Value} (h : IntsAt w l v) (hb : Below w.heap.size w w') : IntsAt w' l v := SliceR.below h hb fun _ _ h => h
theorem ints_of_own {w : World} {B : Nat} {e : TypeId} {v : Value} {n : Nat} {l : List Int} (h : w.ownsRow B e 1 v n (l.map (Value.int .i64))) : IntsAt w l v := by
  have hl : n = l.length := by have := h.1; simp at this; omega
  subst hl
  rcases Nat.eq_zero_or_pos l.length with h0 | h0
  · obtain rfl : l = [] := List.eq_nil_of_length_eq_zero h0
    obtain ⟨_, h⟩ := h
    rcases h with ⟨rfl, _⟩ | ⟨g, cp, cur, rfl, _, _, _, h4, _⟩
    · exact .inl ⟨rfl, _, _, rfl, Nat.zero_le _⟩
    · exact .inl ⟨rfl, _, _, rfl, h4⟩
  · have h' := h
    obtain ⟨g, cp, rfl, h1, h2, h3, h4⟩ := ownsRow_open h h0
    obtain ⟨_, h⟩ := h'
    have hcp : cp ≤ maxLen := by
      rcases h with ⟨h, _⟩ | ⟨g', cp', cur, h, _, _, _, h5, _⟩
      · cases h
      · cases h; exact h5
    refine .inr ⟨g, 0, cp, rfl, fun e => by rw [e] at h0; simp at h0, h1, hcp, h3, fun i hi => ⟨[.int .i64 l[i]], rfl, rfl, fun j hj => ?_⟩⟩
    obtain rfl : j = 0 := by omega
    have := h4 i (by omega)
    simp only [Nat.mul_one, Nat.zero_add, Nat.add_zero]
    rw [this]
    simp [hi]

/-! ### the document's Ends -/
def endsStay (t : Int) (e c : Int) : Bool := decide (e ≤ t) && decide (c < 4096)
theorem _root_.Int.le_mul_of_pos_right' (a b : Int) (ha : 1 ≤ a) (hb : 1 ≤ b) : a ≤ a * b := by
  have := Int.mul_le_mul_of_nonneg_left (c := a) hb (by omega)
  omega
theorem ownsRow_empty {w : World} {B g : Nat} {e : TypeId} {s : Nat} (h : w.heap[g]? = some (.cells #[] e (0, 0))) (hB : B ≤ g) : w.ownsRow B e s (.slice (some ⟨g, 0, none⟩) 0 0) 0 [] :=
  ⟨by simp, .inr ⟨g, 0, #[], rfl, hB, h, Nat.le_refl _, Nat.zero_le _, by simp, by simp⟩⟩

end Go.Proofs.Ytmddlbgdmdepdaa
