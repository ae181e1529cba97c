/- The order of counts is strict and total; slices.SortFunc at counts. No condition. -/
import Derived.Test.YtmddlbgdmdepdaaCmpA
import Derived.Test.YtmddlbgdmdepdaaKitE
import Derived.Shelf.SlSortCmp.NoneTotal
set_option linter.unusedVariables false
set_option linter.unusedSimpArgs false
set_option maxRecDepth 100000
namespace Go.Proofs.Ytmddlbgdmdepdaa
open Go.Maps Go.MapKept Go.RowKit Go.ChangeMaps Go.Shelf Go.Sort CK

theorem sortWorldK_below {α : Type} [Inhabited α] {enc : α → List Value} {k : Nat} {w : World} {B g n : Nat} {d : Array α} {os : Array Obj} (hb : B ≤ w.heap.size) (hg : B ≤ g) : RowKit.Below B w (sortWorldK enc k w g 0 n d os) :=
  ⟨rfl, rfl, rfl, by simp [sortWorldK, grow, putRowK, Sort.ahead], fun b hbb => by
    have h1 : b < w.heap.size := by omega
    simp [sortWorldK, grow, putRowK, putRow, mapBlock, Sort.ahead, Array.getElem?_append, Array.getElem?_modify, h1, Array.getElem_modify, show g ≠ b by omega]⟩
theorem ltC (x y : Cn) : ltOf cfC x y = true ↔ y.2 < x.2 ∨ (y.2 = x.2 ∧ Lib.compareBytes x.1.data.toList y.1.data.toList < 0) := by
  unfold ltOf cfC cmpI
  rw [decide_eq_true_eq]
  by_cases h1 : y.2 < x.2
  · simp [h1]
  · by_cases h2 : x.2 < y.2
    · simp [h1, h2]; omega
    · have : y.2 = x.2 := by omega
      simp [h1, h2, this]
theorem ltC_total {x y : Cn} (h1 : ltOf cfC x y = false) (h2 : ltOf cfC y x = false) : x = y := by
  have a1 : ¬ (y.2 < x.2 ∨ (y.2 = x.2 ∧ Lib.compareBytes x.1.data.toList y.1.data.toList < 0)) := fun h => by rw [(ltC x y).2 h] at h1; cases h1
  have a2 : ¬ (x.2 < y.2 ∨ (x.2 = y.2 ∧ Lib.compareBytes y.1.data.toList x.1.data.toList < 0)) := fun h => by rw [(ltC y x).2 h] at h2; cases h2
  have e1 : x.2 = y.2 := by
    rcases Int.lt_trichotomy x.2 y.2 with h | h | h
    · exact (a2 (.inl h)).elim
    · exact h
    · exact (a1 (.inl h)).elim
  have e2 : Lib.compareBytes x.1.data.toList y.1.data.toList = 0 := by
    have f := cb_flip x.1.data.toList y.1.data.toList
    rcases cb_cases x.1.data.toList y.1.data.toList with h | h | h
    · exact (a1 (.inr ⟨e1.symm, by omega⟩)).elim
    · exact h
    · exact (a2 (.inr ⟨e1, by omega⟩)).elim
  exact Prod.ext (ba_ext (cb_eq e2)) e1
theorem swoC : SWO (ltOf cfC) where
  irrefl x := by
    cases h : ltOf cfC x x
    · rfl
    · rcases (ltC x x).1 h with h | ⟨_, h⟩
      · omega
      · rw [cb_self] at h; omega
  trans x y z h1 h2 := by
    rw [ltC] at *
    rcases h1 with h1 | ⟨h1, h1'⟩ <;> rcases h2 with h2 | ⟨h2, h2'⟩
    · left; omega
    · left; omega
    · left; omega
    · right; exact ⟨by omega, cb_trans h1' h2'⟩
  ntrans x y z h1 h2 := by
    cases h : ltOf cfC x z
    · rfl
    exfalso
    have b1 : x = y ∨ ltOf cfC y x = true := by
      cases h3 : ltOf cfC y x
      · exact .inl (ltC_total h1 h3)
      · exact .inr rfl
    have b2 : y = z ∨ ltOf cfC z y = true := by
      cases h3 : ltOf cfC z y
      · exact .inl (ltC_total h2 h3)
      · exact .inr rfl
    have tr : ∀ {a b c : Cn}, ltOf cfC a b = true → ltOf cfC b c = true → ltOf cfC a c = true := fun {a b c} h1 h2 => by
      rw [ltC] at *
      rcases h1 with h1 | ⟨h1, h1'⟩ <;> rcases h2 with h2 | ⟨h2, h2'⟩
      · left; omega
      · left; omega
      · left; omega
      · right; exact ⟨by omega, cb_trans h1' h2'⟩
    rcases b1 with rfl | b1
    · rw [h2] at h; cases h
    · rcases b2 with rfl | b2
      · rw [h1] at h; cases h
      · have h4 := tr (tr h b2) b1
        rcases (ltC x x).1 h4 with h | ⟨_, h⟩
        · omega
        · rw [cb_self] at h; omega
/-- the counts in order -/
def sortC (l : List Cn) : List Cn := l.mergeSort fun x y => !(ltOf cfC) y x
theorem sortC_perm (l : List Cn) : (sortC l).Perm l := List.mergeSort_perm l _
theorem encC_len (x : Cn) : (encC x).length = 2 := rfl
instance : Inhabited Cn := ⟨(⟨#[]⟩, 0)⟩
theorem cmpLaysC (blk off size : Nat) (w : World) : CmpLays Try.prog 57 #[] encC 2 cfC blk off size w := fun _ _ _ _ x y => topCmp_calls x y _
/-- slices.SortFunc at counts of the call's own -/
theorem sortCount_calls (w : World) (B : Nat) (l : List Cn) (v : Value) (hb : B ≤ w.heap.size) (h : w.ownsRow B 55 2 v l.length (l.flatMap encC)) (hsz : l.length < 4611686018427387904) :
    Calls Try.prog 56 #[v, .func (.func 57) #[] #[]] w fun e w' => e = .returned (.tuple #[]) ∧ CK.RowK encC 2 w' (sortC l) v ∧ RowKit.Below B w w' := by
  have eg : ∀ args w, (callFunc 57 args).run Try.prog w = .ok (.enter 57 args) w := enters_of Try.func57 (by kernel_rfl) rfl
  rcases Nat.eq_zero_or_pos l.length with hz | hz
  · obtain rfl := List.eq_nil_of_length_eq_zero hz
    have hrow := CK.rowK_of_own encC_len h
    obtain ⟨o, cap, rfl, _⟩ := SliceR.shape hrow
    have hcon := AnyF.slices_SortFunc_none Try.sortCountL o cap (.func (.func 57) #[] #[]) w
    change Calls Try.prog 56 _ _ _ at hcon
    refine hcon.mono ?_
    rintro e w' ⟨rfl, rfl⟩
    have : sortC [] = [] := by simp [sortC]
    exact ⟨rfl, by rw [this]; exact hrow, RowKit.Below.refl _ _⟩
  · have hsh : ∃ g cp, v = .slice (some ⟨g, 0, none⟩) l.length cp ∧ B ≤ g := by
      rcases h.2 with ⟨_, h0⟩ | ⟨g, cap, cur, h0, h1, _⟩
      · omega
      · exact ⟨g, cap, h0, h1⟩
    obtain ⟨g, cp, rfl, hg⟩ := hsh
    have hH := CK.holdsK_of_own encC_len (by omega) h
    obtain ⟨_, _, hgl, hcp, hlc⟩ := CK.own_cell encC_len h (i := 0) (j := 0) hz (by omega)
    have hcon := AnyQ.slices_SortFunc_total Try.sortCountL 2 Try.isAgg55 Try.sizeOf55 encC encC_len (fun x u hu => by simp [encC] at hu; rcases hu with rfl | rfl <;> rfl) cfC swoC 57 #[] g 0 cp l.toArray w eg (cmpLaysC g 0 l.toArray.size w) hH hgl (by simpa using hsz) (fun x y => ltC_total)
    change Calls Try.prog 56 _ _ _ at hcon
    refine hcon.mono ?_
    rintro e w' ⟨rfl, n, os, rfl⟩
    have hlen : (sortC l).length = l.length := (sortC_perm l).length_eq
    refine ⟨rfl, ?_, ?_⟩
    · have h2 : HoldsK encC 2 (sortWorldK encC 2 w g 0 n (sortC l).toArray os) g 0 (sortC l).toArray :=
        holdsK_grow _ _ _ _ _ _ _ (by simpa [putRowK] using hgl) (holdsK_putRowK _ _ _ _ _ l.toArray _ (holdsK_ahead _ _ _ _ _ _ _ hH) (by simpa using hlen))
      have h3 := CK.rowK_of_holds (l := sortC l) encC_len (cp := cp) (fun e => by rw [e] at hlen; simp at hlen; omega) (by omega) hcp (Nat.lt_of_lt_of_le hgl (sortWorldK_below (B := B) hb hg).size) h2
      rw [hlen] at h3
      exact h3
    · exact sortWorldK_below hb hg
end Go.Proofs.Ytmddlbgdmdepdaa
