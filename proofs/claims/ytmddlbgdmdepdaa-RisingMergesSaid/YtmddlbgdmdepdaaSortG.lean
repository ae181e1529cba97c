/- slices.SortFunc at rows of structs, over any comparison. No condition. -/
import Derived.Test.YtmddlbgdmdepdaaKitD
import Derived.Test.YtmddlbgdmdepdaaKitF
import Derived.Shelf.SlSortCmp.NoneTotal
set_option linter.unusedVariables false
set_option linter.unusedSimpArgs false
set_option maxRecDepth 100000
namespace Go.Proofs.Ytmddlbgdmdepdaa
open Go.Maps Go.MapKept Go.RowKit Go.ChangeMaps Go.Shelf Go.Sort CK

theorem permIn_all {α : Type} [Inhabited α] {d d' : Array α} (h : PermIn 0 d.size d d') : d'.toList.Perm d.toList := by
  obtain ⟨h1, _, h3⟩ := h
  have e1 : d'.extract 0 d.size = d' := by rw [← h1]; exact Array.extract_eq_self_of_le (Nat.le_refl _)
  have e2 : d.extract 0 d.size = d := Array.extract_eq_self_of_le (Nat.le_refl _)
  rw [e1, e2] at h3
  exact h3
theorem sortedIn_all {α : Type} [Inhabited α] {lt : α → α → Bool} {d : Array α} {n : Nat} (hn : d.size = n) (h : SortedIn lt 0 n d) : d.toList.Pairwise fun x y => lt y x = false := by
  rw [List.pairwise_iff_getElem]
  intro i j hi hj hij
  have := h i j (by omega) hij (by simp at hj; omega)
  simp only [Array.length_toList] at hi hj
  simpa [getElem!_pos, hi, hj] using this
theorem sortWorldK_below' {α : Type} [Inhabited α] {enc : α → List Value} {k : Nat} {w : World} {B g n : Nat} {d : Array α} {os : Array Obj} (hb : B ≤ w.heap.size) (hg : B ≤ g) : RowKit.Below B w (sortWorldK enc k w g 0 n d os) :=
  ⟨rfl, rfl, rfl, by simp [sortWorldK, grow, putRowK, Sort.ahead], fun b hbb => by
    have h1 : b < w.heap.size := by omega
    simp [sortWorldK, grow, putRowK, putRow, mapBlock, Sort.ahead, Array.getElem?_append, Array.getElem?_modify, h1, Array.getElem_modify, show g ≠ b by omega]⟩
/-- a row of structs that the call owns is sorted in its place -/
theorem sortFunc_any {α : Type} [Inhabited α] {ρ : Ren} (L : SlLaysF0.n6 Try.prog ρ) (k : Nat) (k0 : 0 < k) (aE : ∀ w, (isAgg (ρ.t 24)).run Try.prog w = .ok true w) (zE : ∀ w, (Go.sizeOf (ρ.t 24)).run Try.prog w = .ok k w)
    (enc : α → List Value) (hk : ∀ x, (enc x).length = k) (h1 : ∀ x, ∀ v ∈ enc x, v.oneCell' = true) (cf : α → α → Int) (hO : CmpOk cf) (g : Nat) (eg : ∀ args w, (callFunc g args).run Try.prog w = .ok (.enter g args) w)
    (hc : ∀ x y w, Calls Try.prog g #[.agg (enc x).toArray, .agg (enc y).toArray] w fun e w' => e = .returned (.int .i64 (cf x y)) ∧ CK.Gr w w')
    (w : World) (B : Nat) (l : List α) (v : Value) (E : TypeId) (hb : B ≤ w.heap.size) (h : w.ownsRow B E k v l.length (l.flatMap enc)) (hsz : l.length < 4611686018427387904) :
    Calls Try.prog (ρ.f 6) #[v, .func (.func g) #[] #[]] w fun e w' => e = .returned (.tuple #[]) ∧ ∃ l', l'.Perm l ∧ InOrder cf l' ∧ CK.RowK enc k w' l' v ∧ RowKit.Below B w w' := by
  rcases Nat.eq_zero_or_pos l.length with hz | hz
  · obtain rfl := List.eq_nil_of_length_eq_zero hz
    have hrow := CK.rowK_of_own hk h
    obtain ⟨o, cap, rfl, _⟩ := SliceR.shape hrow
    refine (AnyF.slices_SortFunc_none L o cap (.func (.func g) #[] #[]) w).mono ?_
    rintro e w' ⟨rfl, rfl⟩
    exact ⟨rfl, [], List.Perm.refl _, List.Pairwise.nil, hrow, RowKit.Below.refl _ _⟩
  · have hsh : ∃ g cp, v = .slice (some ⟨g, 0, none⟩) l.length cp ∧ B ≤ g := by
      rcases h.2 with ⟨_, h0⟩ | ⟨g, cap, cur, h0, h1, _⟩
      · omega
      · exact ⟨g, cap, h0, h1⟩
    obtain ⟨b, cp, rfl, hg⟩ := hsh
    have hH := CK.holdsK_of_own hk k0 h
    obtain ⟨_, _, hgl, hcp, hlc⟩ := CK.own_cell hk h (i := 0) (j := 0) hz k0
    have hcmp : CmpLays Try.prog g #[] enc k cf b 0 l.toArray.size w := fun m os dk _ x y => (hc x y _).mono fun e w' ⟨he, hG⟩ => ⟨he, hG.out⟩
    have hcon := AnyQ.slices_SortFunc L k aE zE enc hk h1 cf hO.swo g #[] b 0 cp l.toArray w eg hcmp hH hgl (by simpa using hsz)
    refine hcon.mono ?_
    rintro e w' ⟨rfl, d', n, os, hp, hs, rfl⟩
    have hpm : d'.toList.Perm l := by simpa using permIn_all hp
    have hlen : d'.toList.length = l.length := hpm.length_eq
    refine ⟨rfl, d'.toList, hpm, inOrder_of_sorted hO (sortedIn_all hp.1 hs), ?_, sortWorldK_below' hb hg⟩
    have h2 : HoldsK enc k (sortWorldK enc k w b 0 n d' os) b 0 d' :=
      holdsK_grow _ _ _ _ _ _ _ (by simpa [putRowK] using hgl) (holdsK_putRowK _ _ _ _ _ l.toArray _ (holdsK_ahead _ _ _ _ _ _ _ hH) hp.1)
    have h3 := CK.rowK_of_holds (l := d'.toList) hk (cp := cp) (fun e => by rw [e] at hlen; simp at hlen; omega) (by omega) hcp (Nat.lt_of_lt_of_le hgl (sortWorldK_below' (B := B) hb hg).size) (by simpa using h2)
    rw [hlen] at h3
    exact h3
end Go.Proofs.Ytmddlbgdmdepdaa
