/- Plain laws: how many windows hold a tick; sums over all ends. No condition. -/
import Derived.Test.YtgmbbjkkmgooiaaWinK
import Derived.Test.YtgmbbjkkmgooiaaWinH
set_option linter.unusedVariables false
set_option linter.unusedSimpArgs false
namespace Go.Proofs.Ytgmbbjkkmgooiaa
open Go.Maps Go.MapKept Go.RowKit Go.ChangeMaps CK

theorem abvI_succ (hop first : Int) (n : Nat) : abvI hop first (n + 1) = abvI hop first n ++ [first + (n : Int) * hop] := by simp [abvI, List.range_succ]
theorem abvI_len (hop first : Int) (n : Nat) : (abvI hop first n).length = n := by simp [abvI]
theorem abvI_get (hop first : Int) (n i : Nat) (h : i < (abvI hop first n).length) : (abvI hop first n)[i] = first + (i : Int) * hop := by simp [abvI]
/-- how many windows hold a tick -/
def cntE (sz hp x : Int) : Int := (x + sz) / hp - x / hp
theorem firstE_pos (x hp : Int) (h : 1 ≤ hp) (x0 : 0 ≤ x) : firstE x hp = (x / hp + 1) * hp := by
  unfold firstE
  split
  · rfl
  · rw [Int.ediv_eq_zero_of_lt x0 (by omega)]; omega
theorem cnt_holds {sz hp x : Int} (hh : 1 ≤ hp) (n : Nat) : (((abvI hp hp n).filter (holdsB sz x)).length : Int) = min (n : Int) (max 0 ((x + sz) / hp)) - min (n : Int) (max 0 (x / hp)) + 0 ∨ sz < 0 ∨ x < 0 := by
  by_cases hs : sz < 0
  · exact .inr (.inl hs)
  by_cases hx : x < 0
  · exact .inr (.inr hx)
  left
  have h1 : x / hp ≤ (x + sz) / hp := Int.ediv_le_ediv (by omega) (by omega)
  have h2 : 0 ≤ x / hp := Int.ediv_nonneg (by omega) (by omega)
  induction n with
  | zero => simp [abvI]; omega
  | succ n ih =>
    rw [abvI_succ, List.filter_append, List.length_append]
    have a1 : x < hp + (n : Int) * hp ↔ x / hp < (n : Int) + 1 := by
      rw [Int.ediv_lt_iff_lt_mul (by omega), Int.add_mul]; omega
    have a2 : hp + (n : Int) * hp - sz ≤ x ↔ (n : Int) + 1 ≤ (x + sz) / hp := by
      rw [Int.le_ediv_iff_mul_le (by omega), Int.add_mul]; omega
    have hb : holdsB sz x (hp + (n : Int) * hp) = (decide (x / hp < (n : Int) + 1) && decide ((n : Int) + 1 ≤ (x + sz) / hp)) := by
      unfold holdsB
      rw [decide_eq_decide.2 a1, decide_eq_decide.2 a2]
    simp only [List.filter_cons, List.filter_nil, hb]
    by_cases c1 : x / hp < (n : Int) + 1 <;> by_cases c2 : (n : Int) + 1 ≤ (x + sz) / hp <;> simp [c1, c2] <;> omega
theorem cnt_all {sz hp x : Int} (hh : 1 ≤ hp) (hs : 0 ≤ sz) (hx : 0 ≤ x) (n : Nat) (hn : (x + sz) / hp ≤ n) : (((abvI hp hp n).filter (holdsB sz x)).length : Int) = cntE sz hp x := by
  have h1 : x / hp ≤ (x + sz) / hp := Int.ediv_le_ediv (by omega) (by omega)
  have h2 : 0 ≤ x / hp := Int.ediv_nonneg (by omega) (by omega)
  rcases cnt_holds (sz := sz) (x := x) hh n with h | h | h
  · unfold cntE; omega
  · omega
  · omega
theorem cntE_bd {sz hp x : Int} (hh : 1 ≤ hp) (hs : 0 ≤ sz) (hx : 0 ≤ x) : 0 ≤ cntE sz hp x ∧ cntE sz hp x ≤ sz := by
  have h1 : x / hp ≤ (x + sz) / hp := Int.ediv_le_ediv (by omega) (by omega)
  have h2 := Int.ediv_mul_le (x + sz) (b := hp) (by omega)
  have h3 := Int.lt_ediv_add_one_mul_self x (b := hp) (by omega)
  refine ⟨by unfold cntE; omega, ?_⟩
  unfold cntE
  have h4 : ((x + sz) / hp - x / hp - 1) * hp < sz := by
    rw [Int.sub_mul, Int.sub_mul]; rw [Int.add_mul] at h3; omega
  by_cases h5 : (x + sz) / hp - x / hp - 1 ≤ 0
  · by_cases h6 : sz = 0
    · subst h6; simp
    · omega
  · have := Int.le_mul_of_pos_right' ((x + sz) / hp - x / hp - 1) hp (by omega) hh
    omega

/-- Holds' row is as long -/
def LenPost (w : World) (c : Int) (e : Ending) (w' : World) : Prop := ∃ o n cap, e = .returned (.slice o n cap) ∧ (n : Int) = c ∧ Below w.heap.size w w'
theorem holds_len (w : World) (sz hp x : Int) (h : mayB sz hp 1 = true) (x0 : 0 ≤ x) (x1 : x ≤ 1099511627776) :
    Calls Try.prog 10 #[.agg #[.int .i64 sz, .int .i64 hp], .int .i64 x] w (LenPost w (cntE sz hp x)) := by
  obtain ⟨_, s1, s2, _, g1, g2, _⟩ := mayB_facts h
  refine (holds_calls w sz hp x h x0 x1).mono fun e w' ⟨n, v, h1, h2, h3, h4, h5⟩ => ?_
  have hsh : ∃ o cap, v = .slice o n cap := by
    have := ints_of_own (l := abvI hp (firstE x hp) n) (by rw [abv_map] at h2; exact h2)
    obtain ⟨o, cap, hv, _⟩ := SliceR.shape this
    exact ⟨o, cap, by rw [hv, abvI_len]⟩
  obtain ⟨o, cap, rfl⟩ := hsh
  refine ⟨o, n, cap, h1, ?_, h5⟩
  have hq : ∀ i : Nat, firstE x hp + (i : Int) * hp = (x / hp + 1 + i) * hp := fun i => by rw [firstE_pos x hp g1 x0, ← Int.add_mul]
  have hm : ∀ i : Nat, more (fun e _ => decide (e - sz ≤ x)) hp (firstE x hp) i ↔ x / hp + 1 + i ≤ (x + sz) / hp := fun i => by
    unfold more
    rw [hq i, Int.le_ediv_iff_mul_le (by omega)]
    simp only [decide_eq_true_eq]
    omega
  have k1 : x / hp ≤ (x + sz) / hp := Int.ediv_le_ediv (by omega) (by omega)
  have k2 : ¬ x / hp + 1 + (n : Int) ≤ (x + sz) / hp := fun h' => h4 ((hm n).2 h')
  unfold cntE
  rcases Nat.eq_zero_or_pos n with hz | hz
  · omega
  · have := (hm (n - 1)).1 (h3 (n - 1) (by omega))
    omega

/-- the ends from nought up to t -/
theorem ends_zero {sz hp t : Int} {l : List Int} (hm : mayB sz hp 1 = true) (ht : t ≤ 2199023255552) (h : EndsOf sz hp 0 t l) : ∃ n : Nat, l = abvI hp hp n ∧ (n : Int) ≤ 4096 ∧ (∀ i : Nat, i < n → hp + (i : Int) * hp ≤ 2199023255552) ∧ (n = 4096 ∨ t / hp ≤ n) := by
  obtain ⟨_, s1, s2, _, g1, g2, _⟩ := mayB_facts hm
  unfold EndsOf at h
  rw [if_pos ⟨hm, by omega⟩] at h
  have hf : firstE 0 hp = hp := by unfold firstE; rw [if_neg (by omega)]
  rw [hf] at h
  obtain ⟨n, rfl, h1, h2⟩ := h
  refine ⟨n, rfl, ?_, fun i hi => (h1 i hi).1, ?_⟩
  · rcases Nat.eq_zero_or_pos n with hz | hz
    · omega
    · have := (h1 (n - 1) (by omega)).2
      simp [endsStay] at this
      omega
  · by_cases hn : n = 4096
    · exact .inl hn
    right
    have hlt : (n : Int) < 4096 := by
      rcases Nat.eq_zero_or_pos n with hz | hz
      · omega
      · have := (h1 (n - 1) (by omega)).2
        simp [endsStay] at this
        omega
    have : ¬ hp + (n : Int) * hp ≤ t := fun hle => h2 ⟨by omega, by simp [endsStay]; omega⟩
    have : ¬ (n : Int) + 1 ≤ t / hp := fun hle => this (by rw [Int.le_ediv_iff_mul_le (by omega), Int.add_mul] at hle; omega)
    omega

/-- over some ends, all that is added of a key -/
def gotS (l : List Add) (sz : Int) (key : ByteArray) (es : List Int) : Int := (es.map fun e => atSum l sz e key).sum
theorem gotS_snoc (l : List Add) (sz : Int) (key : ByteArray) (es : List Int) (e : Int) : gotS l sz key (es ++ [e]) = gotS l sz key es + atSum l sz e key := by simp [gotS]
theorem gotS_bd (l : List Add) (sz : Int) (key : ByteArray) (es : List Int) (hl : l.length ≤ 60) : 0 ≤ gotS l sz key es ∧ gotS l sz key es ≤ es.length * 62914560 := by
  refine snoc_ind (p := fun es => 0 ≤ gotS l sz key es ∧ gotS l sz key es ≤ es.length * 62914560) (by simp [gotS]) (fun es e ih => ?_) es
  rw [gotS_snoc]
  have := atSum_bd l sz e key
  simp only [List.length_append, List.length_cons, List.length_nil]
  omega
theorem gotS_add (l : List Add) (a : Add) (sz : Int) (key : ByteArray) (es : List Int) :
    gotS (l ++ [a]) sz key es = gotS l sz key es + if rightB a && decide (a.key = key) then a.n * ((es.filter (holdsB sz a.at_)).length : Int) else 0 := by
  refine snoc_ind (p := fun es => gotS (l ++ [a]) sz key es = gotS l sz key es + if rightB a && decide (a.key = key) then a.n * ((es.filter (holdsB sz a.at_)).length : Int) else 0) (by simp [gotS]) (fun es e ih => ?_) es
  rw [gotS_snoc, gotS_snoc, ih, atSum_snoc, List.filter_append, List.length_append]
  cases c1 : (rightB a && decide (a.key = key))
  · simp
  · cases c2 : holdsB sz a.at_ e
    · simp [c2]; omega
    · simp only [Bool.true_and, if_true, List.filter_cons, c2, List.filter_nil, List.length_cons, List.length_nil, Nat.zero_add, Int.natCast_add, Int.mul_add, Int.natCast_one, Int.mul_one]
      omega
/-- what each add counts -/
def wantS (l : List Add) (key : ByteArray) (c : Int → Int) : Int := ((l.filter fun a => rightB a && decide (a.key = key)).map fun a => a.n * c a.at_).sum
theorem wantS_snoc (l : List Add) (a : Add) (key : ByteArray) (c : Int → Int) : wantS (l ++ [a]) key c = wantS l key c + if rightB a && decide (a.key = key) then a.n * c a.at_ else 0 := by
  unfold wantS
  rw [List.filter_append, List.map_append, List.sum_append]
  congr 1
  cases h : (rightB a && decide (a.key = key)) <;> simp [List.filter_cons, h]
theorem wantS_bd (l : List Add) (key : ByteArray) (c : Int → Int) (B : Int) (hc : ∀ a ∈ l, rightB a = true → 0 ≤ c a.at_ ∧ c a.at_ ≤ B) (hB : 0 ≤ B) : 0 ≤ wantS l key c ∧ wantS l key c ≤ l.length * (1048576 * B) := by
  induction l with
  | nil => simp [wantS]
  | cons a r ih =>
    have ih := ih fun a h => hc a (List.mem_cons_of_mem _ h)
    simp only [wantS, List.filter_cons] at *
    cases h : (rightB a && decide (a.key = key))
    · have : 0 ≤ 1048576 * B := by omega
      simp [Int.add_mul]; omega
    · have hr : rightB a = true := by simp only [Bool.and_eq_true] at h; exact h.1
      have hcc := hc a (List.mem_cons_self ..) hr
      simp only [rightB, Bool.and_eq_true, decide_eq_true_eq] at hr
      have m1 : 0 ≤ a.n * c a.at_ := Int.mul_nonneg (by omega) hcc.1
      have m2 : a.n * c a.at_ ≤ 1048576 * B := Int.mul_le_mul (by omega) hcc.2 hcc.1 (by omega)
      simp [Int.add_mul]; omega
theorem got_want (l : List Add) (sz hp : Int) (key : ByteArray) (n : Nat) (hh : 1 ≤ hp) (hs : 0 ≤ sz) (hl : ∀ a ∈ l, rightB a = true → a.key = key → (a.at_ + sz) / hp ≤ n) : gotS l sz key (abvI hp hp n) = wantS l key (cntE sz hp) := by
  refine snoc_ind (p := fun l => (∀ a ∈ l, rightB a = true → a.key = key → (a.at_ + sz) / hp ≤ n) → gotS l sz key (abvI hp hp n) = wantS l key (cntE sz hp)) (fun _ => ?_) (fun l a ih hl => ?_) l hl
  · simp only [gotS, atSum, wantS, List.filter_nil, List.map_nil, List.sum_nil]
    generalize abvI hp hp n = es
    induction es with
    | nil => rfl
    | cons e r ih => simpa using ih
  · rw [gotS_add, wantS_snoc, ih fun a h => hl a (List.mem_append_left _ h)]
    congr 1
    cases h : (rightB a && decide (a.key = key))
    · rfl
    · have h' := h
      simp only [Bool.and_eq_true, decide_eq_true_eq] at h'
      have hr := h'.1
      simp only [rightB, Bool.and_eq_true, decide_eq_true_eq] at hr
      rw [if_pos rfl, if_pos rfl, cnt_all hh hs (by omega) n (hl a (by simp) h'.1 h'.2)]
/-- the last tick of a key -/
def mostS (l : List Add) (key : ByteArray) : Int := (l.filter fun a => rightB a && decide (a.key = key)).foldl (fun m a => max m a.at_) 0
theorem mostS_snoc (l : List Add) (a : Add) (key : ByteArray) : mostS (l ++ [a]) key = if rightB a && decide (a.key = key) then max (mostS l key) a.at_ else mostS l key := by
  unfold mostS
  rw [List.filter_append, List.foldl_append]
  cases h : (rightB a && decide (a.key = key)) <;> simp [List.filter_cons, h]
theorem mostS_bd (l : List Add) (key : ByteArray) (B : Int) (hB : 0 ≤ B) (h : ∀ a ∈ l, a.at_ ≤ B) : 0 ≤ mostS l key ∧ mostS l key ≤ B ∧ ∀ a ∈ l, rightB a = true → a.key = key → a.at_ ≤ mostS l key := by
  refine snoc_ind (p := fun l => (∀ a ∈ l, a.at_ ≤ B) → 0 ≤ mostS l key ∧ mostS l key ≤ B ∧ ∀ a ∈ l, rightB a = true → a.key = key → a.at_ ≤ mostS l key) (fun _ => ?_) (fun l a ih h => ?_) l h
  · simp [mostS, hB]
  · obtain ⟨i1, i2, i3⟩ := ih fun a h' => h a (List.mem_append_left _ h')
    have ha := h a (by simp)
    rw [mostS_snoc]
    refine ⟨by split <;> omega, by split <;> omega, fun x hx hr hk => ?_⟩
    rcases List.mem_append.1 hx with hx | hx
    · have := i3 x hx hr hk
      split <;> omega
    · simp only [List.mem_singleton] at hx
      subst hx
      rw [if_pos (by simp [hr, hk])]; omega
end Go.Proofs.Ytgmbbjkkmgooiaa
