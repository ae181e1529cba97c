/- Plain laws: the keys of a window's panes, the recount's counts in order. No condition. -/
import Derived.Test.YtmddlbgdmdepdaaRefB
import Derived.Test.YtmddlbgdmdepdaaWinK
set_option linter.unusedVariables false
set_option linter.unusedSimpArgs false
set_option maxRecDepth 100000
namespace Go.Proofs.Ytmddlbgdmdepdaa
open Go.Maps Go.MapKept Go.RowKit Go.ChangeMaps Go.Shelf CK

/-- the document's counts: of each key once, those above nought, each put in its order -/
def refTop (l : List Add) (g : ByteArray → Int) : List Add → List Cn → List Cn
  | [], out => out
  | a :: r, out => refTop (l ++ [a]) g r (if !(l.any fun x => decide (x.key = a.key)) && decide (0 < g a.key) then putC (a.key, g a.key) out else out)
/-- every cell that is stored is above nought -/
theorem sums_pos (wd : Int) (l : List Add) : ∀ c ∈ sumsOf wd l, 0 < c.2 := by
  refine snoc_ind (p := fun l => ∀ c ∈ sumsOf wd l, 0 < c.2) (by simp [sumsOf]) (fun l a ih => ?_) l
  rw [sumsOf_snoc]
  split
  · unfold addTo
    split
    · intro c hc
      unfold putA at hc
      have hold : 0 ≤ (lookA (sumsOf wd l) (a.key, a.at_ / wd)).getD 0 := by
        cases h : lookA (sumsOf wd l) (a.key, a.at_ / wd) with
        | none => simp
        | some v =>
          have := ih _ (lookA_mem' h)
          simp at this ⊢; omega
      split at hc
      · obtain ⟨d, hd, e⟩ := List.mem_map.1 hc
        split at e
        · subst e; simp; omega
        · subst e; exact ih _ hd
      · rcases List.mem_append.1 hc with h | h
        · exact ih _ h
        · simp at h; subst h; simp; omega
    · exact ih
  · exact ih
theorem psum_nn {m : Sums} (hp : ∀ c ∈ m, 0 < c.2) (key : ByteArray) (f e : Int) : 0 ≤ psum m key f e := by
  induction m with
  | nil => simp [psum]
  | cons d s ih =>
    have h1 := ih fun x hx => hp x (List.mem_cons_of_mem _ hx)
    have h2 := hp d (by simp)
    simp only [psum, List.filter_cons] at *
    split
    · simp only [List.map_cons, List.sum_cons]; omega
    · exact h1
theorem psum_pos {m : Sums} (hp : ∀ c ∈ m, 0 < c.2) (key : ByteArray) (f e : Int) : 0 < psum m key f e ↔ key ∈ keysIn m f e := by
  rw [keysIn_mem]
  induction m with
  | nil => simp [psum]
  | cons c r ih =>
    have ih := ih fun d hd => hp d (List.mem_cons_of_mem _ hd)
    have h0 : 0 ≤ psum r key f e := psum_nn (fun d hd => hp d (List.mem_cons_of_mem _ hd)) key f e
    have h3 := hp c (by simp)
    have h4 : psum (c :: r) key f e = (if c.1.1 = key ∧ f ≤ c.1.2 ∧ c.1.2 < e then c.2 else 0) + psum r key f e := by
      unfold psum
      rw [List.filter_cons]
      by_cases h : c.1.1 = key ∧ f ≤ c.1.2 ∧ c.1.2 < e
      · rw [if_pos (by simpa using h), if_pos h]; rfl
      · rw [if_neg (by simpa using h), if_neg h]; simp
    rw [h4]
    by_cases h : c.1.1 = key ∧ f ≤ c.1.2 ∧ c.1.2 < e
    · rw [if_pos h]
      exact ⟨fun _ => ⟨c, by simp, h⟩, fun _ => by omega⟩
    · rw [if_neg h, Int.zero_add, ih]
      constructor
      · rintro ⟨d, hd, h5⟩; exact ⟨d, List.mem_cons_of_mem _ hd, h5⟩
      · rintro ⟨d, hd, h5⟩
        rcases List.mem_cons.1 hd with rfl | hd
        · exact (h h5).elim
        · exact ⟨d, hd, h5⟩
theorem sortedC_unique {l1 l2 : List Cn} (hp : l1.Perm l2) (h1 : l1.Pairwise fun x y => ltOf cfC y x = false) (h2 : l2.Pairwise fun x y => ltOf cfC y x = false) : l1 = l2 := by
  induction l1 generalizing l2 with
  | nil => exact (List.perm_nil.1 hp.symm).symm
  | cons a r ih =>
    cases l2 with
    | nil => exact (List.perm_nil.1 hp)
    | cons b s =>
      rw [List.pairwise_cons] at h1 h2
      have hab : a = b := by
        have ha : a ∈ b :: s := hp.mem_iff.1 (by simp)
        have hb : b ∈ a :: r := hp.mem_iff.2 (by simp)
        rcases List.mem_cons.1 ha with h | h
        · exact h
        · rcases List.mem_cons.1 hb with h' | h'
          · exact h'.symm
          · exact ltC_total (h2.1 a h) (h1.1 b h')
      subst hab
      rw [ih (List.Perm.cons_inv hp) h1.2 h2.2]
theorem sortC_sorted (l : List Cn) : (sortC l).Pairwise fun x y => ltOf cfC y x = false := by
  have := List.pairwise_mergeSort (le := fun x y => !(ltOf cfC) y x) (fun a b c h1 h2 => by
    simp only [Bool.not_eq_true'] at *
    exact swoC.ntrans _ _ _ h2 h1) (fun a b => by
    cases h : ltOf cfC b a
    · simp
    · have : ltOf cfC a b = false := by
        cases h2 : ltOf cfC a b
        · rfl
        · have := swoC.trans _ _ _ h h2
          rw [swoC.irrefl] at this; cases this
      simp [this]) l
  exact this.imp fun h => by simpa using h
theorem putC_sorted {c : Cn} {l : List Cn} (h : l.Pairwise fun x y => ltOf cfC y x = false) : (putC c l).Pairwise fun x y => ltOf cfC y x = false := by
  induction l with
  | nil => simp [putC]
  | cons x r ih =>
    rw [List.pairwise_cons] at h
    rw [putC]
    have asym : ∀ {a b : Cn}, ltOf cfC a b = true → ltOf cfC b a = false := fun {a b} h1 => by
      cases h2 : ltOf cfC b a
      · rfl
      · have := swoC.trans _ _ _ h1 h2
        rw [swoC.irrefl] at this; cases this
    split
    · rename_i hx
      refine List.pairwise_cons.2 ⟨fun y hy => ?_, List.pairwise_cons.2 h⟩
      rcases List.mem_cons.1 hy with rfl | hy
      · exact asym hx
      · exact swoC.ntrans _ _ _ (h.1 y hy) (asym hx)
    · rename_i hx
      refine List.pairwise_cons.2 ⟨fun y hy => ?_, ih h.2⟩
      rcases List.mem_cons.1 ((putC_perm c r).mem_iff.1 hy) with rfl | hy
      · simpa using hx
      · exact h.1 y hy
theorem refTop_sorted (l : List Add) (g : ByteArray → Int) (r : List Add) (out : List Cn) (h : out.Pairwise fun x y => ltOf cfC y x = false) : (refTop l g r out).Pairwise fun x y => ltOf cfC y x = false := by
  induction r generalizing l out with
  | nil => exact h
  | cons a r ih =>
    rw [refTop]
    refine ih _ _ ?_
    split
    · exact putC_sorted h
    · exact h
theorem refTop_inv (g : ByteArray → Int) (r : List Add) (l : List Add) (out : List Cn) (h : (∀ c, c ∈ out ↔ c.2 = g c.1 ∧ 0 < g c.1 ∧ ∃ a ∈ l, a.key = c.1) ∧ out.Nodup) :
    (∀ c, c ∈ refTop l g r out ↔ c.2 = g c.1 ∧ 0 < g c.1 ∧ ∃ a ∈ l ++ r, a.key = c.1) ∧ (refTop l g r out).Nodup := by
  induction r generalizing l out with
  | nil => rw [List.append_nil]; exact h
  | cons a r ih =>
    rw [refTop, show l ++ a :: r = (l ++ [a]) ++ r by simp]
    refine ih _ _ ?_
    have hany : (l.any fun x => decide (x.key = a.key)) = true ↔ ∃ x ∈ l, x.key = a.key := by rw [List.any_eq_true]; simp
    by_cases hc : (!(l.any fun x => decide (x.key = a.key)) && decide (0 < g a.key)) = true
    · rw [if_pos hc]
      simp only [Bool.and_eq_true, Bool.not_eq_true', decide_eq_true_eq] at hc
      have hno : ¬ ∃ x ∈ l, x.key = a.key := fun h' => by rw [hany.2 h'] at hc; cases hc.1
      refine ⟨fun c => ?_, ?_⟩
      · rw [(putC_perm _ _).mem_iff, List.mem_cons, h.1 c]
        constructor
        · rintro (rfl | ⟨h1, h2, x, hx, h3⟩)
          · exact ⟨rfl, hc.2, a, by simp, rfl⟩
          · exact ⟨h1, h2, x, List.mem_append_left _ hx, h3⟩
        · rintro ⟨h1, h2, x, hx, h3⟩
          rcases List.mem_append.1 hx with hx | hx
          · exact .inr ⟨h1, h2, x, hx, h3⟩
          · simp at hx; subst hx
            left; exact Prod.ext h3.symm (by rw [h1, ← h3])
      · rw [(putC_perm _ _).nodup_iff, List.nodup_cons]
        exact ⟨fun h' => hno (by obtain ⟨_, _, x, hx, h3⟩ := (h.1 _).1 h'; exact ⟨x, hx, h3⟩), h.2⟩
    · rw [if_neg hc]
      refine ⟨fun c => ?_, h.2⟩
      rw [h.1 c]
      constructor
      · rintro ⟨h1, h2, x, hx, h3⟩; exact ⟨h1, h2, x, List.mem_append_left _ hx, h3⟩
      · rintro ⟨h1, h2, x, hx, h3⟩
        rcases List.mem_append.1 hx with hx | hx
        · exact ⟨h1, h2, x, hx, h3⟩
        · simp at hx; subst hx
          have hp : 0 < g x.key := by rw [h3]; exact h2
          have : (l.any fun y => decide (y.key = x.key)) = true := by
            cases h5 : (l.any fun y => decide (y.key = x.key))
            · exfalso; apply hc; rw [h5]; simp [hp]
            · rfl
          obtain ⟨y, hy, h6⟩ := hany.1 this
          exact ⟨h1, h2, y, hy, h6.trans h3⟩
theorem refTop_snoc (g : ByteArray → Int) (r : List Add) (a : Add) (l : List Add) (out : List Cn) :
    refTop l g (r ++ [a]) out = if !((l ++ r).any fun x => decide (x.key = a.key)) && decide (0 < g a.key) then putC (a.key, g a.key) (refTop l g r out) else refTop l g r out := by
  induction r generalizing l out with
  | nil => rw [List.nil_append, List.append_nil, refTop, refTop, refTop]
  | cons b r ih =>
    rw [List.cons_append, refTop, ih, refTop, show l ++ [b] ++ r = l ++ b :: r by simp]
theorem refTop_len (g : ByteArray → Int) (r : List Add) (l : List Add) (out : List Cn) : (refTop l g r out).length ≤ out.length + r.length := by
  induction r generalizing l out with
  | nil => simp [refTop]
  | cons b r ih =>
    rw [refTop]
    refine Nat.le_trans (ih _ _) ?_
    split
    · rw [(putC_perm _ _).length_eq, List.length_cons, List.length_cons]; omega
    · rw [List.length_cons]; omega
theorem refTop_none (r : List Add) (l : List Add) : refTop l (fun _ => 0) r [] = [] := by
  induction r generalizing l with
  | nil => rfl
  | cons b r ih => rw [refTop, if_neg (by simp)]; exact ih _
theorem rangeSum_has {l : List Add} {key : ByteArray} {f e : Int} (h : 0 < rangeSum l key f e) : ∃ a ∈ l, a.key = key := by
  by_cases hn : ∃ a ∈ l, a.key = key
  · exact hn
  exfalso
  have : (l.filter fun a => rightB a && decide (a.key = key) && (decide (f ≤ a.at_) && decide (a.at_ < e))) = [] := by
    rw [List.filter_eq_nil_iff]
    intro a ha h'
    simp only [Bool.and_eq_true, decide_eq_true_eq] at h'
    exact hn ⟨a, ha, h'.1.2⟩
  unfold rangeSum at h
  rw [this] at h
  simp at h
/-- THE FIRST KEYS OF A WINDOW ARE THE RECOUNT's -/
theorem tops_plain (l : List Add) (wd : Int) (hw : 1 ≤ wd) (f e : Int) (hf : f % wd = 0) (he : e % wd = 0) (ks : List ByteArray) (hk : ks.Perm (keysIn (sumsOf wd l) (f / wd) (e / wd))) :
    sortC (cntsOf (sumsOf wd l) ks (f / wd) (e / wd)) = refTop [] (fun key => rangeSum l key f e) l [] := by
  obtain ⟨h1, h2⟩ := refTop_inv (fun key => rangeSum l key f e) l [] [] ⟨by simp, by simp⟩
  have hnd : (cntsOf (sumsOf wd l) ks (f / wd) (e / wd)).Nodup := by
    have hkn : ks.Nodup := hk.nodup_iff.2 (keysIn_nodup _ _ _)
    unfold cntsOf
    exact List.Pairwise.map _ (fun a b hab h' => hab (congrArg Prod.fst h')) hkn
  refine sortedC_unique ((sortC_perm _).trans ((List.perm_ext_iff_of_nodup hnd h2).2 fun c => ?_)) (sortC_sorted _) (refTop_sorted _ _ _ _ (by simp))
  rw [h1 c, List.nil_append]
  unfold cntsOf
  rw [List.mem_map]
  have hpos := fun key => psum_pos (sums_pos wd l) key (f / wd) (e / wd)
  constructor
  · rintro ⟨k, hk', rfl⟩
    have h3 := (hpos k).2 (hk.mem_iff.1 hk')
    rw [psum_sums wd hw l k f e hf he] at h3 ⊢
    exact ⟨rfl, h3, rangeSum_has h3⟩
  · rintro ⟨h3, h4, _⟩
    rw [← psum_sums wd hw l c.1 f e hf he] at h3 h4
    exact ⟨c.1, hk.mem_iff.2 ((hpos c.1).1 h4), Prod.ext rfl h3.symm⟩
end Go.Proofs.Ytmddlbgdmdepdaa
