/- Comparisons and their orders: joined, turned round, sorted rows that are one. No condition. -/
import Derived.Test.YtmddlbgdmdepdaaCmpI
import Derived.Shelf.SlSortCmp.Insertion
import Derived.Lib.Bytealg
set_option linter.unusedVariables false
set_option linter.unusedSimpArgs false
set_option maxRecDepth 100000
namespace Go.Proofs.Ytmddlbgdmdepdaa
open Go.Maps Go.MapKept Go.RowKit Go.ChangeMaps Go.Shelf Go.Sort CK

theorem cb_self : ∀ a : List UInt8, Lib.compareBytes a a = 0
  | [] => rfl
  | a :: r => by
    rw [Lib.compareBytes, if_neg (by exact UInt8.lt_irrefl a), if_neg (by exact UInt8.lt_irrefl a)]
    exact cb_self r
theorem cb_cases (a b : List UInt8) : Lib.compareBytes a b = -1 ∨ Lib.compareBytes a b = 0 ∨ Lib.compareBytes a b = 1 := by
  induction a generalizing b with
  | nil => cases b <;> simp [Lib.compareBytes]
  | cons x r ih =>
    cases b with
    | nil => simp [Lib.compareBytes]
    | cons y s =>
      rw [Lib.compareBytes]
      split
      · simp
      · split
        · simp
        · exact ih s
theorem u8_eq {a b : UInt8} (h1 : ¬ a < b) (h2 : ¬ b < a) : a = b := UInt8.le_antisymm (UInt8.not_lt.1 h2) (UInt8.not_lt.1 h1)
theorem cb_eq {a b : List UInt8} (h : Lib.compareBytes a b = 0) : a = b := by
  induction a generalizing b with
  | nil => cases b with
    | nil => rfl
    | cons y s => simp [Lib.compareBytes] at h
  | cons x r ih =>
    cases b with
    | nil => simp [Lib.compareBytes] at h
    | cons y s =>
      rw [Lib.compareBytes] at h
      split at h
      · simp at h
      · split at h
        · simp at h
        · rename_i h1 h2
          rw [u8_eq h1 h2, ih h]
theorem cb_flip (a b : List UInt8) : Lib.compareBytes b a = - Lib.compareBytes a b := by
  induction a generalizing b with
  | nil => cases b <;> simp [Lib.compareBytes]
  | cons x r ih =>
    cases b with
    | nil => simp [Lib.compareBytes]
    | cons y s =>
      rw [Lib.compareBytes, Lib.compareBytes]
      by_cases h1 : x < y
      · rw [if_neg (by exact UInt8.lt_asymm h1), if_pos h1, if_pos h1]; rfl
      · by_cases h2 : y < x
        · rw [if_pos h2, if_neg h1, if_pos h2]
        · rw [if_neg h2, if_neg h1, if_neg h1, if_neg h2]; exact ih s
theorem cb_trans {a b c : List UInt8} (h1 : Lib.compareBytes a b < 0) (h2 : Lib.compareBytes b c < 0) : Lib.compareBytes a c < 0 := by
  induction a generalizing b c with
  | nil =>
    cases c with
    | nil => cases b <;> simp [Lib.compareBytes] at h1 h2
    | cons z t => simp [Lib.compareBytes]
  | cons x r ih =>
    cases b with
    | nil => simp [Lib.compareBytes] at h1
    | cons y s =>
      cases c with
      | nil => simp [Lib.compareBytes] at h2
      | cons z t =>
        rw [Lib.compareBytes] at h1 h2 ⊢
        by_cases a1 : x < y
        · by_cases b1 : y < z
          · rw [if_pos (UInt8.lt_trans a1 b1)]; omega
          · rw [if_neg b1] at h2
            by_cases b2 : z < y
            · rw [if_pos b2] at h2; omega
            · rw [u8_eq b1 b2] at a1; rw [if_pos a1]; omega
        · rw [if_neg a1] at h1
          by_cases a2 : y < x
          · rw [if_pos a2] at h1; omega
          · rw [if_neg a2] at h1
            obtain rfl := u8_eq a1 a2
            by_cases b1 : x < z
            · rw [if_pos b1]; omega
            · rw [if_neg b1] at h2 ⊢
              by_cases b2 : z < x
              · rw [if_pos b2] at h2; omega
              · rw [if_neg b2] at h2 ⊢
                exact ih h1 h2
theorem ba_ext {a b : ByteArray} (h : a.data.toList = b.data.toList) : a = b := ByteArray.ext (Array.ext' h)

/-- what is asked of a comparison -/
structure CmpOk {α : Type} (cf : α → α → Int) : Prop where
  flip : ∀ a b, cf b a = - cf a b
  trans : ∀ a b c, cf a b ≤ 0 → cf b c ≤ 0 → cf a c ≤ 0
section
variable {α β : Type} {cf c1 c2 : α → α → Int}
theorem CmpOk.self (h : CmpOk cf) (a : α) : cf a a = 0 := by have := h.flip a a; omega
theorem CmpOk.swo (h : CmpOk cf) : SWO (ltOf cf) where
  irrefl x := by simp [ltOf, h.self x]
  trans x y z h1 h2 := by
    simp only [ltOf, decide_eq_true_eq] at *
    have h3 := h.trans x y z (by omega) (by omega)
    rcases Int.lt_or_eq_of_le h3 with h4 | h4
    · exact h4
    · have f1 := h.flip x z
      have := h.trans y z x (by omega) (by omega)
      have := h.flip x y
      omega
  ntrans x y z h1 h2 := by
    simp only [ltOf, decide_eq_false_iff_not] at *
    have f1 := h.flip x y
    have f2 := h.flip y z
    have f3 := h.flip x z
    have := h.trans z y x (by omega) (by omega)
    omega
theorem CmpOk.lex (h1 : CmpOk c1) (h2 : CmpOk c2) : CmpOk fun a b => if c1 a b = 0 then c2 a b else c1 a b where
  flip a b := by
    have f1 := h1.flip a b
    have f2 := h2.flip a b
    split <;> split <;> omega
  trans a b c k1 k2 := by
    have g1 : c1 a b ≤ 0 := by split at k1 <;> omega
    have g2 : c1 b c ≤ 0 := by split at k2 <;> omega
    have g3 := h1.trans a b c g1 g2
    split
    · rename_i e
      have f := h1.flip a c
      have f1 := h1.flip a b
      have f2 := h1.flip b c
      have e1 := h1.trans b c a (by omega) (by omega)
      have e2 := h1.trans c a b (by omega) (by omega)
      rw [if_pos (by omega)] at k1 k2
      exact h2.trans a b c k1 k2
    · exact g3
theorem CmpOk.comap (h : CmpOk cf) (f : β → α) : CmpOk fun a b => cf (f a) (f b) := ⟨fun a b => h.flip _ _, fun a b c => h.trans _ _ _⟩
theorem CmpOk.turn (h : CmpOk cf) : CmpOk fun a b => cf b a := ⟨fun a b => h.flip _ _, fun a b c h1 h2 => h.trans _ _ _ h2 h1⟩
theorem CmpOk.turn_le (h : CmpOk cf) (a b : α) : 0 ≤ cf a b ↔ cf b a ≤ 0 := by have := h.flip a b; omega
theorem cmpI_ok : CmpOk cmpI where
  flip a b := by unfold cmpI; split <;> split <;> (try split) <;> omega
  trans a b c h1 h2 := by
    unfold cmpI at *
    repeat' split at *
    all_goals omega
theorem cmpI_le {x y : Int} : cmpI x y ≤ 0 ↔ x ≤ y := by unfold cmpI; split <;> (try split) <;> omega
theorem cmpI_lt {x y : Int} : cmpI x y < 0 ↔ x < y := by unfold cmpI; split <;> (try split) <;> omega
theorem cmpI_zero {x y : Int} : cmpI x y = 0 ↔ x = y := by unfold cmpI; split <;> (try split) <;> omega
theorem cb_ok : CmpOk Lib.compareBytes where
  flip a b := cb_flip a b
  trans a b c h1 h2 := by
    rcases cb_cases a b with h | h | h
    · rcases cb_cases b c with k | k | k
      · have := cb_trans (a := a) (b := b) (c := c) (by omega) (by omega); omega
      · rw [← cb_eq k]; omega
      · omega
    · rw [cb_eq h]; exact h2
    · omega
/-- two texts -/
def cmpS (a b : ByteArray) : Int := Lib.compareBytes a.data.toList b.data.toList
theorem cmpS_ok : CmpOk cmpS := cb_ok.comap fun a : ByteArray => a.data.toList
theorem cmpS_eq {a b : ByteArray} (h : cmpS a b = 0) : a = b := ba_ext (cb_eq h)
theorem cmpS_self (a : ByteArray) : cmpS a a = 0 := cb_self _
/-- rows in order -/
def InOrder (cf : α → α → Int) (l : List α) : Prop := l.Pairwise fun x y => cf x y ≤ 0
theorem inOrder_of_sorted (h : CmpOk cf) {l : List α} (hl : l.Pairwise fun x y => ltOf cf y x = false) : InOrder cf l :=
  hl.imp fun {x y} e => by have := h.flip x y; simp only [ltOf, decide_eq_false_iff_not] at e; omega
theorem inOrder_one (h : CmpOk cf) {l1 l2 : List α} (hp : l1.Perm l2) (h1 : InOrder cf l1) (h2 : InOrder cf l2) (tot : ∀ x ∈ l1, ∀ y ∈ l1, cf x y = 0 → x = y) : l1 = l2 := by
  induction l1 generalizing l2 with
  | nil => exact (List.perm_nil.1 hp.symm).symm
  | cons a r ih =>
    cases l2 with
    | nil => exact (List.perm_nil.1 hp)
    | cons b s =>
      rw [InOrder, List.pairwise_cons] at h1 h2
      have hab : a = b := by
        have ha : a ∈ b :: s := hp.mem_iff.1 (by simp)
        have hb : b ∈ a :: r := hp.mem_iff.2 (by simp)
        rcases List.mem_cons.1 ha with k | k
        · exact k
        · rcases List.mem_cons.1 hb with k' | k'
          · exact k'.symm
          · have e1 := h2.1 a k
            have e2 := h1.1 b k'
            have := h.flip a b
            exact tot a (by simp) b hb (by omega)
      subst hab
      rw [ih (List.Perm.cons_inv hp) h1.2 h2.2 fun x hx y hy => tot x (List.mem_cons_of_mem _ hx) y (List.mem_cons_of_mem _ hy)]
/-- an element laid ahead of the first one that it is ahead of -/
def putBy (cf : α → α → Int) (c : α) : List α → List α
  | [] => [c]
  | x :: r => if cf c x < 0 then c :: x :: r else x :: putBy cf c r
theorem putBy_perm (c : α) (l : List α) : (putBy cf c l).Perm (c :: l) := by
  induction l with
  | nil => exact List.Perm.refl _
  | cons x r ih =>
    rw [putBy]
    split
    · exact List.Perm.refl _
    · exact (ih.cons x).trans (List.Perm.swap c x r)
theorem putBy_inOrder (h : CmpOk cf) {c : α} {l : List α} (hl : InOrder cf l) : InOrder cf (putBy cf c l) := by
  induction l with
  | nil => simp [putBy, InOrder]
  | cons x r ih =>
    rw [InOrder, List.pairwise_cons] at hl
    rw [putBy]
    split
    · rename_i hx
      refine List.pairwise_cons.2 ⟨fun y hy => ?_, List.pairwise_cons.2 hl⟩
      rcases List.mem_cons.1 hy with rfl | hy
      · omega
      · exact h.trans c x y (by omega) (hl.1 y hy)
    · rename_i hx
      refine List.pairwise_cons.2 ⟨fun y hy => ?_, ih hl.2⟩
      rcases List.mem_cons.1 ((putBy_perm c r).mem_iff.1 hy) with rfl | hy
      · have := h.flip y x; omega
      · exact hl.1 y hy
theorem putBy_mem {c x : α} {l : List α} : x ∈ putBy cf c l ↔ x = c ∨ x ∈ l := by rw [(putBy_perm c l).mem_iff]; simp
/-- a row in order -/
def sortBy (cf : α → α → Int) (l : List α) : List α := l.foldr (putBy cf) []
theorem sortBy_perm (l : List α) : (sortBy cf l).Perm l := by
  induction l with
  | nil => exact List.Perm.refl _
  | cons x r ih => exact (putBy_perm x _).trans (ih.cons x)
theorem sortBy_inOrder (h : CmpOk cf) (l : List α) : InOrder cf (sortBy cf l) := by
  induction l with
  | nil => exact List.Pairwise.nil
  | cons x r ih => exact putBy_inOrder h ih
end
/-- a row is handed back; what was there stays -/
def RowPost {α : Type} (enc : α → List Value) (k : Nat) (w : World) (l : List α) (e : Ending) (w' : World) : Prop := ∃ v, e = .returned v ∧ CK.RowK enc k w' l v ∧ Below w.heap.size w w'
/-- fractions by their products across, of dens above 0 -/
theorem cross_trans {x1 y1 x2 y2 x3 y3 : Int} (h1 : 1 ≤ y1) (h2 : 1 ≤ y2) (h3 : 1 ≤ y3) (a : x1 * y2 ≤ x2 * y1) (b : x2 * y3 ≤ x3 * y2) : x1 * y3 ≤ x3 * y1 := by
  have a' := Int.mul_le_mul_of_nonneg_right a (show 0 ≤ y3 by omega)
  have b' := Int.mul_le_mul_of_nonneg_right b (show 0 ≤ y1 by omega)
  have e : (x1 * y3) * y2 ≤ (x3 * y1) * y2 := by
    have e1 : x1 * y3 * y2 = x1 * y2 * y3 := Int.mul_right_comm _ _ _
    have e2 : x2 * y1 * y3 = x2 * y3 * y1 := Int.mul_right_comm _ _ _
    have e3 : x3 * y1 * y2 = x3 * y2 * y1 := Int.mul_right_comm _ _ _
    omega
  exact Int.le_of_mul_le_mul_right e (by omega)
end Go.Proofs.Ytmddlbgdmdepdaa
