/- More of rows in order. No condition. -/
import Derived.Test.YtmddlbgdmdepdaaKitE
set_option linter.unusedVariables false
set_option linter.unusedSimpArgs false
set_option maxRecDepth 100000
namespace Go.Proofs.Ytmddlbgdmdepdaa
open Go.RowKit CK
theorem CK.alloc_name_d {K : Act → World → Prop} {W : World} {cs : Array Value} {t : TypeId} {sl : Nat} {a : Act}
    (h : ∀ (g : Nat) (w' : World), w'.heap[g]? = some (.cells cs t (0, 0)) → Below W.heap.size W.drew w' → W.heap.size ≤ g → K (a.put (some sl) (.pointer (some ⟨g, 0, none⟩))) w') : K (a.put (some sl) (.pointer (some ⟨W.heap.size, 0, none⟩))) (W.alloc (.cells cs t (0, 0))).drew :=
  h _ _ (blk_new W _) ⟨rfl, rfl, rfl, by show W.heap.size ≤ (W.alloc _).heap.size; simp, fun k hk => ((Below.refl _ W).alloc (Nat.le_refl _) _).block k hk⟩ (Nat.le_refl _)
section
variable {α β : Type} {cf : α → α → Int}
theorem inOrder_flip (flip : ∀ a b, cf b a = - cf a b) {l1 l2 : List α} (hp : l1.Perm l2) (h1 : InOrder cf l1) (h2 : InOrder cf l2) (tot : ∀ x ∈ l1, ∀ y ∈ l1, cf x y = 0 → x = y) : l1 = l2 := by
  induction l1 generalizing l2 with
  | nil => exact (List.perm_nil.1 hp.symm).symm
  | cons a r ih =>
    cases l2 with
    | nil => exact (List.perm_nil.1 hp)
    | cons b s =>
      rw [InOrder, List.pairwise_cons] at h1 h2
      have hab : a = b := by
        have ha : a ∈ b :: s := hp.mem_iff.1 (by simp)
        have hb : b ∈ a :: r := hp.mem_iff.2 (by simp)
        rcases List.mem_cons.1 ha with k | k
        · exact k
        · rcases List.mem_cons.1 hb with k' | k'
          · exact k'.symm
          · have e1 := h2.1 a k
            have e2 := h1.1 b k'
            have := flip a b
            exact tot a (by simp) b hb (by omega)
      subst hab
      rw [ih (List.Perm.cons_inv hp) h1.2 h2.2 fun x hx y hy => tot x (List.mem_cons_of_mem _ hx) y (List.mem_cons_of_mem _ hy)]
theorem putBy_map {cg : β → β → Int} (f : α → β) (hf : ∀ a b, cg (f a) (f b) = cf a b) (c : α) (l : List α) : putBy cg (f c) (l.map f) = (putBy cf c l).map f := by
  induction l with
  | nil => rfl
  | cons x r ih =>
    rw [List.map_cons, putBy, putBy, hf]
    split
    · rfl
    · rw [ih]; rfl
theorem sortBy_map {cg : β → β → Int} (f : α → β) (hf : ∀ a b, cg (f a) (f b) = cf a b) (l : List α) : sortBy cg (l.map f) = (sortBy cf l).map f := by
  induction l with
  | nil => rfl
  | cons x r ih =>
    show putBy cg (f x) (sortBy cg (r.map f)) = _
    rw [ih, putBy_map f hf]; rfl
theorem putBy_no {c : α} {l : List α} (h : l.any (fun x => decide (cf c x < 0)) = false) : putBy cf c l = l ++ [c] := by
  induction l with
  | nil => rfl
  | cons x r ih =>
    rw [List.any_cons, Bool.or_eq_false_iff] at h
    rw [putBy, if_neg (by simpa using h.1), ih h.2]; rfl
theorem putBy_yes {c : α} {l : List α} (h : l.any (fun x => decide (cf c x < 0)) = true) (r : List α) : putBy cf c (l ++ r) = putBy cf c l ++ r := by
  induction l with
  | nil => simp at h
  | cons x s ih =>
    rw [List.cons_append, putBy, putBy]
    split
    · rfl
    · rename_i hx
      rw [List.any_cons] at h
      rw [ih (by simpa [hx] using h)]; rfl
theorem putBy_at {c x : α} {l : List α} (h : l.any (fun x => decide (cf c x < 0)) = false) (hx : cf c x < 0) : putBy cf c (l ++ [x]) = l ++ [c, x] := by
  induction l with
  | nil => rw [List.nil_append, putBy, if_pos hx]; rfl
  | cons y s ih =>
    rw [List.any_cons, Bool.or_eq_false_iff] at h
    rw [List.cons_append, putBy, if_neg (by simpa using h.1), ih h.2]; rfl
end
end Go.Proofs.Ytmddlbgdmdepdaa
