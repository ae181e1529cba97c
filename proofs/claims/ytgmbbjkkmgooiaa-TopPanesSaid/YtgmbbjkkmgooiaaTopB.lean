/- TopPanes: plain laws, and the law's function returns true, by a walk. No condition. -/
import Derived.Test.YtgmbbjkkmgooiaaTopA
set_option linter.unusedVariables false
set_option linter.unusedSimpArgs false
namespace Go.Proofs.Ytgmbbjkkmgooiaa
open Go.Maps Go.MapKept Go.RowKit Go.ChangeMaps CK Go.Proofs.YtgmbbjkkmgooiaaW.PrintLast

def TAdd.add (a : TAdd) : Add := ⟨a.key, a.at_, a.n⟩
theorem TAdd.bd {a : TAdd} (h : a.ok) : 0 ≤ a.at_ ∧ a.at_ ≤ 65535 ∧ 0 ≤ a.n ∧ a.n ≤ 65535 := ⟨(bounds_u16 h.2.1).1, (bounds_u16 h.2.1).2, (bounds_u16 h.2.2).1, (bounds_u16 h.2.2).2⟩
theorem TAdd.right {a : TAdd} (h : a.ok) (h1 : 1 ≤ a.key.size) (h2 : a.key.size ≤ 24) : rightB a.add = true := by
  have := TAdd.bd h
  unfold rightB
  simp only [Bool.and_eq_true, decide_eq_true_eq]
  exact ⟨⟨⟨⟨⟨h1, h2⟩, this.1⟩, Int.le_trans this.2.1 (by omega)⟩, this.2.2.1⟩, Int.le_trans this.2.2.2 (by omega)⟩
theorem TAdd.wrong {a : TAdd} (h1 : a.key.size = 0) : rightB a.add = false := by
  simp only [rightB, TAdd.add, h1]; rfl
theorem rangeSum_rev (l : List Add) (key : ByteArray) (f e : Int) : rangeSum l.reverse key f e = rangeSum l key f e := by
  unfold rangeSum
  rw [List.filter_reverse, List.map_reverse]
  exact sum_perm (List.reverse_perm _)
theorem rangeSum_none (l : List Add) (key : ByteArray) (f e : Int) (h : e ≤ 0) : rangeSum l key f e = 0 := by
  refine snoc_ind (p := fun l => rangeSum l key f e = 0) (by simp [rangeSum]) (fun l a ih => ?_) l
  rw [rangeSum_snoc, ih, if_neg]
  · rfl
  · intro h'
    simp only [rightB, Bool.and_eq_true, decide_eq_true_eq] at h'
    omega
/-- a window's count is that of the adds -/
theorem at_range' {l : List Add} {sz hp wd e : Int} {key : ByteArray} (hm : mayB sz hp wd = true) (he : e % hp = 0) (h0 : 0 ≤ e) (h1 : e ≤ 65535) :
    (if mayB sz hp wd && endB hp e then psum (sumsOf wd l) key ((e - sz) / wd) (e / wd) else 0) = rangeSum l key (e - sz) e := by
  rw [at_plain, hm, Bool.true_and]
  obtain ⟨_, _, _, _, g1, _⟩ := mayB_facts hm
  split
  · rw [atSum_range]
  · rename_i h
    rw [rangeSum_none]
    simp [endB, he] at h
    by_cases hlt : e < hp
    · rw [Int.emod_eq_of_lt h0 hlt] at he; omega
    · have := h (by omega); omega

/-- Holds' row has each end that holds the tick -/
def HasPost (w : World) (sz hp x : Int) (e : Ending) (w' : World) : Prop := ∃ hl v, e = .returned v ∧ IntsAt w' hl v ∧ (∀ E : Int, x < E → E - sz ≤ x → E % hp = 0 → hl.any (fun y => y == E) = true) ∧ Below w.heap.size w w'
theorem holds_has (w : World) (sz hp x : Int) (h : mayB sz hp 1 = true) (x0 : 0 ≤ x) (x1 : x ≤ 1099511627776) :
    Calls Try.prog 10 #[.agg #[.int .i64 sz, .int .i64 hp], .int .i64 x] w (HasPost w sz hp x) := by
  obtain ⟨_, s1, s2, _, g1, g2, _⟩ := mayB_facts h
  refine (holds_calls w sz hp x h x0 x1).mono fun e w' ⟨n, v, h1, h2, h3, h4, h5⟩ => ?_
  refine ⟨abvI hp (firstE x hp) n, v, h1, ints_of_own (by rw [abv_map] at h2; exact h2), fun E hE1 hE2 hE3 => ?_, h5⟩
  obtain ⟨q, hq⟩ : ∃ q, E = q * hp := ⟨E / hp, (Int.ediv_mul_cancel (Int.dvd_of_emod_eq_zero hE3)).symm⟩
  have a1 : x / hp + 1 ≤ q := by
    have : x / hp < q := by rw [Int.ediv_lt_iff_lt_mul (by omega)]; omega
    omega
  obtain ⟨i, hi⟩ : ∃ i : Nat, (i : Int) = q - (x / hp + 1) := ⟨(q - (x / hp + 1)).toNat, by omega⟩
  have hEi : firstE x hp + (i : Int) * hp = E := by
    rw [firstE_pos x hp g1 x0, ← Int.add_mul, hq, hi]; congr 1; omega
  rw [List.any_eq_true]
  refine ⟨E, ?_, by simp⟩
  have hin : i < n := by
    rcases Nat.lt_or_ge i n with h | h
    · exact h
    exfalso
    refine h4 ⟨?_, ?_⟩
    · have : (n : Int) * hp ≤ (i : Int) * hp := Int.mul_le_mul_of_nonneg_right (by omega) (by omega)
      omega
    · have : (n : Int) * hp ≤ (i : Int) * hp := Int.mul_le_mul_of_nonneg_right (by omega) (by omega)
      simp; omega
  have := List.getElem_mem (l := abvI hp (firstE x hp) n) (n := i) (by rw [abvI_len]; exact hin)
  rwa [abvI_get, hEi] at this
end Go.Proofs.Ytgmbbjkkmgooiaa
