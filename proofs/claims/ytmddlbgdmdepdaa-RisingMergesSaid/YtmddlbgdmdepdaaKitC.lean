/- What a law's arguments are, out of the row's own reading: numbers, strings, structs, slices of structs; over any program. No condition. -/
import Derived.ChangeSlices
import Derived.ChangeArms
import Derived.WalkKit
import Derived.Deep.Slices
set_option linter.unusedVariables false
set_option linter.unusedSimpArgs false
set_option maxRecDepth 100000
namespace Go.Proofs.Ytmddlbgdmdepdaa.CK
open Go.RowKit

/-- the slice value v holds the list l, each element 'sz' cells long and told by R -/
def SliceR {α : Type} (sz : Nat) (R : World → α → List Value → Prop) (w : World) (l : List α) (v : Value) : Prop :=
  (l = [] ∧ ∃ o cap, v = .slice o 0 cap ∧ cap ≤ maxLen) ∨
  ∃ b off cap, v = .slice (some ⟨b, off, none⟩) l.length cap ∧ l ≠ [] ∧ l.length ≤ cap ∧ cap ≤ maxLen ∧ b < w.heap.size ∧
    ∀ i (h : i < l.length), ∃ ce, ce.length = sz ∧ R w l[i] ce ∧ ∀ j, j < sz → w.cell? ⟨b, off + i * sz + j, none⟩ = ce[j]?

section
variable {H : Type} {enc : TypeId × Value → H} {P : Program} {w : World} {base : Nat} {sp : Nat → Bool} {held : Bool}

theorem trod_field {t : TypeId} {fuel : Nat} {cs : List Value} {x : DataW H × List MemPlace} {fs : Array Field} (ht : P.underlying t = some (.struct fs)) (h : DataW.trod enc P w base sp held fuel t cs = some x) :
    cs.length = P.cellsOf t ∧ ∃ n, ∀ (i : Nat) (f : Field), fs[i]? = some f → ∃ y, DataW.trod enc P w base sp held n f.type ((cs.drop f.offset).take (P.cellsOf f.type)) = some y := by
  obtain ⟨xs, n, rfl, rfl, hl, hx, hf⟩ := DataW.trod_struct ht h
  refine ⟨hl, n, fun i f hi => ?_⟩
  have hlt : i < xs.length := by rw [hx]; exact (Array.getElem?_eq_some_iff.1 hi).1
  exact ⟨xs[i], by rw [hf i f hi, List.getElem?_eq_getElem hlt]⟩

theorem list_of {α : Type} {p : Nat → α → Prop} : ∀ n, (∀ i, i < n → ∃ a, p i a) → ∃ l : List α, l.length = n ∧ ∀ i (h : i < l.length), p i l[i]
  | 0, _ => ⟨[], rfl, fun i h => absurd h (by simp)⟩
  | n + 1, h => by
    obtain ⟨l, hl, hp⟩ := list_of n fun i hi => h i (by omega)
    obtain ⟨a, ha⟩ := h n (by omega)
    refine ⟨l ++ [a], by simp [hl], fun i hi => ?_⟩
    rcases Nat.lt_or_ge i l.length with h1 | h1
    · rw [List.getElem_append_left h1]; exact hp i h1
    · obtain rfl : i = n := by simp at hi; omega
      rw [List.getElem_append_right (by omega)]
      simpa [hl] using ha

theorem open_sliceR {α : Type} {R : World → α → List Value → Prop} {sz : Nat} {t e : TypeId} (hc : P.cellsOf e = sz) (hpos : 0 < sz)
    (hopen : ∀ fuel cs x, DataW.trod enc P w base sp held fuel e cs = some x → ∃ a, R w a cs) (ht : P.underlying t = some (.slice e)) {v : Value} {fuel : Nat} {x : DataW H × List MemPlace}
    (h : DataW.trod enc P w base sp held fuel t [v] = some x) : ∃ l, SliceR sz R w l v := by
  rcases DataW.trod_slice ht h with ⟨hcs, _⟩ | ⟨a, len, cap, elems, rest, n, rfl, hcs, rfl, hb, hl, hm, hlen, hel, _⟩
  · obtain rfl : v = .slice none 0 0 := by simpa using hcs
    exact ⟨[], .inl ⟨rfl, _, _, rfl, Nat.zero_le _⟩⟩
  · obtain rfl : v = .slice (some a) len cap := by simpa using hcs
    rcases Nat.eq_zero_or_pos len with rfl | hp
    · exact ⟨[], .inl ⟨rfl, _, _, rfl, hm⟩⟩
    · have hcell : ∀ i, i < len → ∃ ce x', ce.length = sz ∧ (∀ j, j < sz → w.cell? ((a.add (i * sz)).add j) = ce[j]?) ∧ DataW.trod enc P w base sp held n e ce = some x' := fun i hi => by
        have h1 := hel i hi
        rw [hc, List.getElem?_eq_getElem (by omega)] at h1
        obtain ⟨ce, h2, h3⟩ := Option.bind_eq_some_iff.1 h1
        obtain ⟨_, h4, h5⟩ := World.cells?_some h2
        exact ⟨ce, _, h4, h5, h3⟩
      obtain ⟨ce0, x0, hl0, hc0, _⟩ := hcell 0 hp
      have hsome : w.cell? a = some (ce0[0]'(by omega)) := by
        have := hc0 0 hpos
        rw [List.getElem?_eq_getElem (by omega)] at this
        simpa [Addr.add] using this
      have hspot : a.spot = none ∧ a.block < w.heap.size := by
        unfold World.cell? at hsome
        split at hsome
        · rename_i c _ _ hh
          refine ⟨?_, ?_⟩
          · cases hs : a.spot with
            | none => rfl
            | some q => simp [hs] at hsome
          · rcases Nat.lt_or_ge a.block w.heap.size with h' | h'
            · exact h'
            · simp [Array.getElem?_eq_none h'] at hh
        · cases hsome
      obtain ⟨b, off, spot⟩ := a
      obtain ⟨rfl, hbl⟩ := hspot
      obtain ⟨l, hll, hlp⟩ := list_of (p := fun i a => ∃ ce, ce.length = sz ∧ R w a ce ∧ ∀ j, j < sz → w.cell? ⟨b, off + i * sz + j, none⟩ = ce[j]?) len fun i hi => by
        obtain ⟨ce, x', h1, h2, h3⟩ := hcell i hi
        obtain ⟨a, ha⟩ := hopen _ _ _ h3
        refine ⟨a, ce, h1, ha, fun j hj => ?_⟩
        rw [← h2 j hj]
        congr 1
        unfold Addr.add
        split <;> split <;> simp_all <;> omega
      exact ⟨l, .inr ⟨b, off, cap, by rw [hll], fun e => by rw [e] at hll; simp at hll; omega, by omega, hm, hbl, fun i hi => by
        obtain ⟨ce, h1⟩ := hlp i hi; exact ⟨ce, h1⟩⟩⟩
end

theorem SliceR.shape {α : Type} {sz : Nat} {R : World → α → List Value → Prop} {w : World} {l : List α} {v : Value} (h : SliceR sz R w l v) : ∃ o cap, v = .slice o l.length cap ∧ l.length ≤ maxLen := by
  rcases h with ⟨rfl, o, cap, rfl, _⟩ | ⟨b, off, cap, rfl, _, h1, h2, _⟩
  · exact ⟨o, cap, rfl, Nat.zero_le _⟩
  · exact ⟨_, _, rfl, Nat.le_trans h1 h2⟩
theorem SliceR.below {α : Type} {sz : Nat} {R : World → α → List Value → Prop} {w w' : World} {l : List α} {v : Value} (h : SliceR sz R w l v) (hb : Below w.heap.size w w')
    (hR : ∀ a cs, R w a cs → R w' a cs) : SliceR sz R w' l v := by
  rcases h with h | ⟨b, off, cap, h0, h1, h2, h3, h4, h5⟩
  · exact .inl h
  · refine .inr ⟨b, off, cap, h0, h1, h2, h3, Nat.lt_of_lt_of_le h4 hb.size, fun i hi => ?_⟩
    obtain ⟨ce, e1, e2, e3⟩ := h5 i hi
    exact ⟨ce, e1, hR _ _ e2, fun j hj => (hb.cell h4).trans (e3 j hj)⟩
theorem SliceR.mono {α : Type} {sz : Nat} {R R' : World → α → List Value → Prop} {w : World} {l : List α} {v : Value} (h : SliceR sz R w l v) (hR : ∀ a cs, R w a cs → R' w a cs) : SliceR sz R' w l v := by
  rcases h with h | ⟨b, off, cap, h0, h1, h2, h3, h4, h5⟩
  · exact .inl h
  · exact .inr ⟨b, off, cap, h0, h1, h2, h3, h4, fun i hi => by obtain ⟨ce, e1, e2, e3⟩ := h5 i hi; exact ⟨ce, e1, hR _ _ e2, e3⟩⟩
end Go.Proofs.Ytmddlbgdmdepdaa.CK
