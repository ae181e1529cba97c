/- Worlds that part by new blocks alone, and never by fewer draws ('Gr'): what the library's sorts ask of a comparison. No condition. -/
import Derived.Test.YtmddlbgdmdepdaaKitA
import Derived.Sort.Grow
set_option linter.unusedVariables false
set_option linter.unusedSimpArgs false
set_option maxRecDepth 100000
namespace Go.Proofs.Ytmddlbgdmdepdaa.CK
open Go.RowKit Go.Sort
structure Gr (w w' : World) : Prop where
  below : Below w.heap.size w w'
  drawn : w.drawn ≤ w'.drawn
theorem Gr.refl (w : World) : Gr w w := ⟨Below.refl _ w, Nat.le_refl _⟩
theorem Gr.trans {a b c : World} (h : Gr a b) (k : Gr b c) : Gr a c := ⟨h.below.trans (k.below.mono h.below.size), Nat.le_trans h.drawn k.drawn⟩
theorem Gr.alloc {a w : World} (h : Gr a w) (o : Obj) : Gr a (w.alloc o) := ⟨h.below.alloc h.below.size o, h.drawn⟩
theorem Gr.drewN {a w : World} (h : Gr a w) (n : Nat) : Gr a (w.drewN n) := ⟨⟨h.below.os, h.below.tape, h.below.output, h.below.size, h.below.block⟩, Nat.le_trans h.drawn (Nat.le_add_right _ _)⟩
theorem Gr.drew {a w : World} (h : Gr a w) : Gr a w.drew := ⟨h.below.drew, Nat.le_trans h.drawn (Nat.le_succ _)⟩
theorem Gr.setCell {a w : World} (h : Gr a w) {p : Addr} (hp : a.heap.size ≤ p.block) (u : Value) : Gr a (w.setCell p u) := ⟨h.below.setCell hp u, h.drawn⟩
theorem Gr.out {w w' : World} (h : Gr w w') : ∃ q os', w' = grow (w.drewN q) os' := by
  obtain ⟨⟨h1, h2, h3, h4, h5⟩, h6⟩ := h
  refine ⟨w'.drawn - w.drawn, w'.heap.extract w.heap.size w'.heap.size, ?_⟩
  cases w with | mk hp tp dr os ou =>
  cases w' with | mk hp' tp' dr' os' ou' =>
  simp only at h1 h2 h3 h4 h5 h6
  subst h1 h2 h3
  have e1 : hp' = hp ++ hp'.extract hp.size hp'.size := by
    apply Array.ext_getElem?
    intro i
    rw [Array.getElem?_append]
    split
    · rename_i hi; exact h5 i hi
    · rename_i hi
      rw [Array.getElem?_extract]
      split
      · rw [show hp.size + (i - hp.size) = i by omega]
      · rw [Array.getElem?_eq_none]; omega
  have e2 : dr' = dr + (dr' - dr) := by omega
  simp only [grow, World.drewN]
  rw [← e1]
  congr 1
theorem blk_new2 (w : World) (o o' : Obj) : ((w.alloc o).alloc o').heap[w.heap.size + 1]? = some o' := by
  have := blk_new (w.alloc o) o'
  rwa [show (w.alloc o).heap.size = w.heap.size + 1 by simp] at this
theorem blk_ne {w : World} {b : Nat} {o : Obj} (h : w.heap[b]? = some o) {p : Addr} (hp : b ≠ p.block) (u : Value) : (w.setCell p u).heap[b]? = some o := by
  rw [Below.heap_setCell w p u b hp]; exact h
/-- a new block under a letter -/
theorem alloc_name {K : Act → World → Prop} {W : World} {cs : Array Value} {t : TypeId} {sl : Nat} {a : Act}
    (h : ∀ (g : Nat) (w' : World), w'.heap[g]? = some (.cells cs t (0, 0)) → Below W.heap.size W w' → W.heap.size ≤ g → K (a.put (some sl) (.pointer (some ⟨g, 0, none⟩))) w') : K (a.put (some sl) (.pointer (some ⟨W.heap.size, 0, none⟩))) (W.alloc (.cells cs t (0, 0))) :=
  h _ _ (blk_new W _) ((Below.refl _ W).alloc (Nat.le_refl _) _) (Nat.le_refl _)
/-- a world (or another end) under a letter, with what is known of it -/
theorem name_w {α : Type} {Q : α → Prop} {W : α} (F : α → Prop) (hF : F W) (h : ∀ w', F w' → Q w') : Q W := h W hF
end Go.Proofs.Ytmddlbgdmdepdaa.CK
