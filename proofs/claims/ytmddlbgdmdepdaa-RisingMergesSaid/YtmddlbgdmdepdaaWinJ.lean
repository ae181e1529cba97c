/- Plain laws: the panes' sums are the recount of what was added. No condition. -/
import Derived.Test.YtmddlbgdmdepdaaWinI
set_option linter.unusedVariables false
set_option linter.unusedSimpArgs false
set_option maxRecDepth 100000
namespace Go.Proofs.Ytmddlbgdmdepdaa
open Go.Maps Go.MapKept Go.RowKit Go.ChangeMaps CK

theorem psum_putA {m : Sums} (hnd : (m.map (·.1)).Nodup) (k : ByteArray × Int) (n : Int) (key : ByteArray) (f e : Int) :
    psum (putA m k ((lookA m k).getD 0 + n)) key f e = psum m key f e + if k.1 = key ∧ f ≤ k.2 ∧ k.2 < e then n else 0 := by
  cases hl : lookA m k with
  | none =>
    have hno : ∀ q ∈ m, q.1 ≠ k := fun q hq e => by
      rw [lookA_mem hnd hq e] at hl; cases hl
    rw [putA_new hno, psum_snoc]
    simp
  | some v =>
    have hm := lookA_mem' hl
    obtain ⟨j, hj⟩ := List.mem_iff_getElem?.1 hm
    rw [putA_old hnd hj]
    obtain ⟨l1, l2, e1, e2⟩ := List.getElem?_eq_some_iff.1 hj |> fun ⟨h1, h2⟩ => (⟨m.take j, m.drop (j + 1), by rw [← h2]; simp, by simp [Nat.min_eq_left (Nat.le_of_lt h1)]⟩ : ∃ l1 l2, m = l1 ++ (k, v) :: l2 ∧ l1.length = j)
    subst e1
    rw [List.set_append_right _ _ (by omega)]
    simp only [e2, Nat.sub_self, List.set_cons_zero, Option.getD_some]
    unfold psum
    simp only [List.filter_append, List.map_append, List.sum_append, List.filter_cons]
    by_cases h : k.1 = key ∧ f ≤ k.2 ∧ k.2 < e
    · simp [h]; omega
    · simp [h]

theorem keys_putA {α β : Type} [DecidableEq α] {m : List (α × β)} (h : (m.map (·.1)).Nodup) (k : α) (v : β) : ((putA m k v).map (·.1)).Nodup := by
  unfold putA
  split
  · have : ((m.map fun p => if p.1 = k then (k, v) else p).map (·.1)) = m.map (·.1) := by
      rw [List.map_map]
      refine List.map_congr_left fun p _ => ?_
      simp only [Function.comp]
      split <;> simp_all
    rw [this]; exact h
  · rename_i hn
    rw [List.map_append, List.nodup_append]
    refine ⟨h, by simp, fun a ha b hb e => ?_⟩
    obtain ⟨p, hp, rfl⟩ := List.mem_map.1 ha
    simp at hb
    apply hn
    exact List.any_eq_true.2 ⟨p, hp, by simp [e, hb]⟩
theorem keys_addTo {m : Sums} (h : (m.map (·.1)).Nodup) (key : ByteArray) (pn n : Int) : ((addTo m key pn n).map (·.1)).Nodup := by
  unfold addTo; split
  · exact keys_putA h _ _
  · exact h
theorem psum_addTo {m : Sums} (hnd : (m.map (·.1)).Nodup) (key' : ByteArray) (pn n : Int) (hn : 0 ≤ n) (key : ByteArray) (f e : Int) :
    psum (addTo m key' pn n) key f e = psum m key f e + if key' = key ∧ f ≤ pn ∧ pn < e then n else 0 := by
  unfold addTo
  split
  · rw [psum_putA hnd]
  · have : n = 0 := by omega
    subst this; simp

/-- what is added of a key from f on, up to e -/
def rangeSum (l : List Add) (key : ByteArray) (f e : Int) : Int := ((l.filter fun a => rightB a && decide (a.key = key) && (decide (f ≤ a.at_) && decide (a.at_ < e))).map (·.n)).sum
theorem rangeSum_snoc (l : List Add) (a : Add) (key : ByteArray) (f e : Int) : rangeSum (l ++ [a]) key f e = rangeSum l key f e + if rightB a && decide (a.key = key) && (decide (f ≤ a.at_) && decide (a.at_ < e)) then a.n else 0 := by
  unfold rangeSum
  rw [List.filter_append, List.map_append, List.sum_append]
  congr 1
  cases h : (rightB a && decide (a.key = key) && (decide (f ≤ a.at_) && decide (a.at_ < e))) <;> simp [List.filter_cons, h]

theorem snoc_ind {α : Type} {p : List α → Prop} (h0 : p []) (h1 : ∀ l a, p l → p (l ++ [a])) : ∀ l, p l := by
  intro l
  have : ∀ r : List α, p r.reverse := by
    intro r
    induction r with
    | nil => exact h0
    | cons a r ih => rw [List.reverse_cons]; exact h1 _ _ ih
  have := this l.reverse
  rwa [List.reverse_reverse] at this

theorem sums_keys (wd : Int) (l : List Add) : ((sumsOf wd l).map (·.1)).Nodup := by
  refine snoc_ind (p := fun l => ((sumsOf wd l).map (·.1)).Nodup) (by simp [sumsOf]) (fun l a ih => ?_) l
  rw [sumsOf_snoc]
  split
  · exact keys_addTo ih _ _ _
  · exact ih

/-- THE PANES' SUMS ARE THE RECOUNT -/
theorem psum_sums (wd : Int) (hw : 1 ≤ wd) (l : List Add) (key : ByteArray) (f e : Int) (hf : f % wd = 0) (he : e % wd = 0) : psum (sumsOf wd l) key (f / wd) (e / wd) = rangeSum l key f e := by
  have hf' : f / wd * wd = f := Int.ediv_mul_cancel (Int.dvd_of_emod_eq_zero hf)
  have he' : e / wd * wd = e := Int.ediv_mul_cancel (Int.dvd_of_emod_eq_zero he)
  refine snoc_ind (p := fun l => psum (sumsOf wd l) key (f / wd) (e / wd) = rangeSum l key f e) (by simp [sumsOf, psum, rangeSum]) (fun l a ih => ?_) l
  rw [sumsOf_snoc, rangeSum_snoc]
  by_cases hr : rightB a = true
  · have hr' := hr
    simp only [rightB, Bool.and_eq_true, decide_eq_true_eq] at hr'
    have h1 : f / wd ≤ a.at_ / wd ↔ f ≤ a.at_ := by rw [Int.le_ediv_iff_mul_le (by omega), hf']
    have h2 : a.at_ / wd < e / wd ↔ a.at_ < e := by rw [Int.ediv_lt_iff_lt_mul (by omega), he']
    rw [if_pos hr, psum_addTo (sums_keys wd l) _ _ _ (by omega), ih, hr]
    simp only [h1, h2]
    congr 1
    by_cases h : a.key = key ∧ f ≤ a.at_ ∧ a.at_ < e
    · rw [if_pos h, if_pos (by simp [h])]
    · rw [if_neg h, if_neg (by simpa using fun h1 h2 h3 => h ⟨h1, h2, h3⟩)]
  · have hr : rightB a = false := by simpa using hr
    rw [hr]; simp [ih]

theorem atSum_range (l : List Add) (sz e : Int) (key : ByteArray) : atSum l sz e key = rangeSum l key (e - sz) e := by
  unfold atSum rangeSum
  congr 3
  funext a
  simp [holdsB, Bool.and_comm]

theorem mod_of_dvd {a b c : Int} (h1 : a % b = 0) (h2 : b % c = 0) : a % c = 0 :=
  Int.emod_eq_zero_of_dvd (Int.dvd_trans (Int.dvd_of_emod_eq_zero h2) (Int.dvd_of_emod_eq_zero h1))
theorem endB_mod {sz hp wd e : Int} (hm : mayB sz hp wd = true) (he : endB hp e = true) : e % wd = 0 ∧ (e - sz) % wd = 0 := by
  obtain ⟨_, _, _, h1, _, _, h2, _⟩ := mayB_facts hm
  simp only [endB, Bool.and_eq_true, decide_eq_true_eq, beq_iff_eq] at he
  have h3 := mod_of_dvd he.2.2 h2
  exact ⟨h3, Int.emod_eq_zero_of_dvd (Int.dvd_sub (Int.dvd_of_emod_eq_zero h3) (Int.dvd_of_emod_eq_zero h1))⟩

/-- a key's sum in a window is the recount -/
theorem at_plain (l : List Add) (sz hp wd e : Int) (key : ByteArray) :
    (if mayB sz hp wd && endB hp e then psum (sumsOf wd l) key ((e - sz) / wd) (e / wd) else 0) = (if mayB sz hp wd && endB hp e then atSum l sz e key else 0) := by
  split
  · rename_i h
    simp only [Bool.and_eq_true] at h
    obtain ⟨h1, h2⟩ := endB_mod h.1 h.2
    rw [psum_sums wd (mayB_facts h.1).1 l key _ _ h2 h1, atSum_range]
  · rfl
end Go.Proofs.Ytmddlbgdmdepdaa
