/- Rows of structs: owned, held, sorted, cut. No condition. -/
import Derived.Test.YtmddlbgdmdepdaaPaneC
import Derived.Test.YtmddlbgdmdepdaaKitC
import Derived.Shelf.GgSortFunc.InsertionK
set_option linter.unusedVariables false
set_option linter.unusedSimpArgs false
set_option maxRecDepth 100000
namespace Go.Proofs.Ytmddlbgdmdepdaa.CK
open Go.RowKit Go.Sort

/-- the slice v holds l, each element told by enc in k cells -/
def RowK {α : Type} (enc : α → List Value) (k : Nat) (w : World) (l : List α) (v : Value) : Prop := SliceR k (fun _ a cs => cs = enc a) w l v
section
variable {α : Type} {enc : α → List Value} {k : Nat} {w : World} {l : List α}
theorem RowK.below {w' : World} {v : Value} (h : RowK enc k w l v) (hb : RowKit.Below w.heap.size w w') : RowK enc k w' l v := SliceR.below h hb fun _ _ h => h
theorem RowK.cell {v : Value} (h : RowK enc k w l v) {i : Nat} (hi : i < l.length) : ∃ b o cap, v = .slice (some ⟨b, o, none⟩) l.length cap ∧ b < w.heap.size ∧ ∀ j, j < k → w.cell? ⟨b, o + i * k + j, none⟩ = (enc l[i])[j]? := by
  rcases h with ⟨rfl, _⟩ | ⟨b, o, cap, rfl, _, _, _, h3, h4⟩
  · simp at hi
  · obtain ⟨ce, _, rfl, h⟩ := h4 i hi
    exact ⟨b, o, cap, rfl, h3, h⟩
theorem flat_len (hk : ∀ x, (enc x).length = k) (l : List α) : (l.flatMap enc).length = l.length * k := by
  induction l with
  | nil => simp
  | cons a r ih => rw [List.flatMap_cons, List.length_append, ih, hk, List.length_cons, Nat.add_mul]; omega
theorem flat_get (hk : ∀ x, (enc x).length = k) (l : List α) (i j : Nat) (hi : i < l.length) (hj : j < k) : (l.flatMap enc)[i * k + j]? = (enc l[i])[j]? := by
  induction l generalizing i with
  | nil => simp at hi
  | cons a r ih =>
    rw [List.flatMap_cons]
    cases i with
    | zero => rw [List.getElem?_append_left (by rw [hk]; omega)]; simp
    | succ i =>
      rw [List.getElem?_append_right (by rw [hk, Nat.add_mul]; omega), hk]
      have := ih i (by simpa using hi)
      rw [show (i + 1) * k + j - k = i * k + j by rw [Nat.add_mul]; omega, this]
      simp
theorem own_cell (hk : ∀ x, (enc x).length = k) {B : Nat} {e : TypeId} {g cp : Nat} (h : w.ownsRow B e k (.slice (some ⟨g, 0, none⟩) l.length cp) l.length (l.flatMap enc)) {i j : Nat} (hi : i < l.length) (hj : j < k) :
    w.cell? ⟨g, i * k + j, none⟩ = (enc l[i])[j]? ∧ w.frozen? ⟨g, i * k + j, none⟩ = false ∧ g < w.heap.size ∧ cp ≤ maxLen ∧ l.length ≤ cp := by
  rcases h.2 with ⟨h0, _⟩ | ⟨g', cap, cur, h0, h1, h2, h3, h4, h5, h6⟩
  · cases h0
  · cases h0
    refine ⟨?_, by simp [World.frozen?, h2], blk_lt h2, h4, h3⟩
    rw [← flat_get hk l i j hi hj, ← h6]
    have hlt : i * k + j < l.length * k := by
      have : (i + 1) * k ≤ l.length * k := Nat.mul_le_mul_right k hi
      rw [Nat.add_mul] at this; omega
    rw [List.getElem?_take_of_lt hlt]
    simp only [World.cell?, h2]
    simp
theorem rowK_of_own (hk : ∀ x, (enc x).length = k) {B : Nat} {e : TypeId} {v : Value} (h : w.ownsRow B e k v l.length (l.flatMap enc)) : RowK enc k w l v := by
  rcases h.2 with ⟨h0, h1⟩ | ⟨g, cap, cur, h0, h1, h2, h3, h4, h5, h6⟩
  · exact .inl ⟨List.eq_nil_of_length_eq_zero h1, none, 0, h0, Nat.zero_le _⟩
  · subst h0
    rcases Nat.eq_zero_or_pos l.length with hz | hz
    · obtain rfl := List.eq_nil_of_length_eq_zero hz
      exact .inl ⟨rfl, _, _, rfl, h4⟩
    · refine .inr ⟨g, 0, cap, rfl, fun e => by rw [e] at hz; simp at hz, h3, h4, blk_lt h2, fun i hi => ⟨enc l[i], hk _, rfl, fun j hj => ?_⟩⟩
      have := (own_cell hk h hi hj).1
      simpa using this
theorem RowK.take {v : Value} (h : RowK enc k w l v) (n : Nat) (hn : n ≤ l.length) {o : Option Addr} {cap : Nat} (hv : v = .slice o l.length cap) : RowK enc k w (l.take n) (.slice o n cap) := by
  rcases h with ⟨rfl, o', c', h0, hc⟩ | ⟨b, off, c', h0, hne, h1, h2, h3, h4⟩
  · obtain rfl : n = 0 := by simpa using hn
    rw [hv] at h0
    cases h0
    exact .inl ⟨rfl, _, _, rfl, hc⟩
  · rw [hv] at h0
    cases h0
    rcases Nat.eq_zero_or_pos n with hz | hz
    · subst hz
      exact .inl ⟨rfl, _, _, rfl, h2⟩
    · have hl : (l.take n).length = n := by rw [List.length_take]; omega
      refine .inr ⟨b, off, cap, by rw [hl], fun e => by rw [e] at hl; simp at hl; omega, by omega, h2, h3, fun i hi => ?_⟩
      obtain ⟨ce, a1, a2, a3⟩ := h4 i (by omega)
      exact ⟨ce, a1, by rw [List.getElem_take]; exact a2, a3⟩
theorem holdsK_of_own [Inhabited α] (hk : ∀ x, (enc x).length = k) (hk0 : 0 < k) {B : Nat} {e : TypeId} {g cp : Nat} (h : w.ownsRow B e k (.slice (some ⟨g, 0, none⟩) l.length cp) l.length (l.flatMap enc)) : HoldsK enc k w g 0 l.toArray := by
  intro t ht
  rw [size_flatK] at ht
  have ht' : t < l.length * k := by simpa using ht
  have h1 : t / k < l.length := (Nat.div_lt_iff_lt_mul hk0).2 ht'
  have h2 := Nat.mod_lt t hk0
  have h3 := own_cell hk h h1 h2
  have h4 : t / k * k + t % k = t := by rw [Nat.mul_comm]; exact Nat.div_add_mod t k
  rw [h4] at h3
  rw [get_flatK enc k _ t ht, Nat.zero_add]
  refine ⟨?_, h3.2.1⟩
  have h5 : t % k < (enc l[t / k]).length := by rw [hk]; exact h2
  rw [h3.1, getElem!_pos l.toArray (t / k) (by simpa using h1)]
  simp only [List.getElem_toArray]
  rw [getElem!_pos (enc l[t / k]) (t % k) h5, List.getElem?_eq_getElem h5]
  rfl
theorem rowK_of_holds [Inhabited α] (hk : ∀ x, (enc x).length = k) {g off cp : Nat} (hl : l ≠ []) (hc : l.length ≤ cp) (hm : cp ≤ maxLen) (hg : g < w.heap.size) (h : HoldsK enc k w g off l.toArray) : RowK enc k w l (.slice (some ⟨g, off, none⟩) l.length cp) := by
  refine .inr ⟨g, off, cp, rfl, hl, hc, hm, hg, fun i hi => ⟨enc l[i], hk _, rfl, fun j hj => ?_⟩⟩
  have h1 := (HoldsK.cell h (i := i) (c := j) (by simpa using hi) hj).1
  have h5 : j < (enc l[i]).length := by rw [hk]; exact hj
  rw [h1, getElem!_pos l.toArray i (by simpa using hi)]
  simp only [List.getElem_toArray]
  rw [getElem!_pos (enc l[i]) j h5, List.getElem?_eq_getElem h5]
end
end Go.Proofs.Ytmddlbgdmdepdaa.CK
