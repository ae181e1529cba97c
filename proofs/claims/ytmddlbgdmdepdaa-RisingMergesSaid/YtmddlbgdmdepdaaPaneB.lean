/- The contracts of pane.New, Width, pane, by walks. No condition. -/
import Derived.Test.YtmddlbgdmdepdaaPaneA
import Derived.Outline
import Derived.BigQuiet
import Derived.Deep.QuietTactic
import Derived.Deep.RegionWith
set_option linter.unusedVariables false
set_option linter.unusedSimpArgs false
set_option maxRecDepth 100000
namespace Go.Proofs.Ytmddlbgdmdepdaa
open Go.Maps Go.MapKept Go.RowKit Go.ChangeMaps CK

theorem max2_int (k k' : IntKind) (x y : Int) : Builtin.max2 (.int k x) (.int k' y) = pure (.int k (max x y)) := by
  simp only [Builtin.max2]; congr 2; omega
theorem min2_int (k k' : IntKind) (x y : Int) : Builtin.min2 (.int k x) (.int k' y) = pure (.int k (min x y)) := by
  simp only [Builtin.min2]; congr 2; omega
attribute [local go_sem] max2_int min2_int

/-- the sum of what is told of a key, in the panes from f up to e -/
def psum (m : List ((ByteArray × Int) × Int)) (key : ByteArray) (f e : Int) : Int := ((m.filter fun c => decide (c.1.1 = key ∧ f ≤ c.1.2 ∧ c.1.2 < e)).map (·.2)).sum
def ptot (m : List ((ByteArray × Int) × Int)) : Int := (m.map (·.2)).sum
def okCell (c : (ByteArray × Int) × Int) : Prop := c.1.1.size ≤ 24 ∧ 0 ≤ c.1.2 ∧ c.1.2 ≤ 1099511627776 ∧ 0 ≤ c.2

structure PanesAt (w : World) (p : Nat) (wd ad : Int) (b : Nat) (m : List ((ByteArray × Int) × Int)) : Prop where
  blk : w.heap[p]? = some (.cells #[.int .i64 wd, .int .i64 ad, .map (some b)] 79 (0, 0))
  map : MapT Try.prog 82 ekCell (Value.int .i64) w b m
  w1 : 1 ≤ wd
  w2 : wd ≤ 1099511627776
  a1 : 0 ≤ ad
  a2 : ad ≤ 1048576
  ok : ∀ c ∈ m, okCell c
  tot : ptot m ≤ ad * 1048576

theorem PanesAt.c0 {w : World} {p : Nat} {wd ad : Int} {b : Nat} {m} (h : PanesAt w p wd ad b m) : w.cell? ⟨p, 0, none⟩ = some (.int .i64 wd) := by rw [blk_cell h.blk]; rfl
theorem PanesAt.c1 {w : World} {p : Nat} {wd ad : Int} {b : Nat} {m} (h : PanesAt w p wd ad b m) : w.cell? ⟨p, 1, none⟩ = some (.int .i64 ad) := by rw [blk_cell h.blk]; rfl
theorem PanesAt.c2 {w : World} {p : Nat} {wd ad : Int} {b : Nat} {m} (h : PanesAt w p wd ad b m) : w.cell? ⟨p, 2, none⟩ = some (.map (some b)) := by rw [blk_cell h.blk]; rfl
theorem PanesAt.ne {w : World} {p : Nat} {wd ad : Int} {b : Nat} {m} (h : PanesAt w p wd ad b m) : b ≠ p := by
  rintro rfl
  obtain ⟨es, c, h1, _⟩ := h.map
  rw [h.blk] at h1; cases h1
theorem PanesAt.same {w w' : World} {p : Nat} {wd ad : Int} {b : Nat} {m} (h : PanesAt w p wd ad b m) (h1 : w'.heap[p]? = w.heap[p]?) (h2 : w'.heap[b]? = w.heap[b]?) : PanesAt w' p wd ad b m :=
  ⟨h1.trans h.blk, h.map.same h2, h.w1, h.w2, h.a1, h.a2, h.ok, h.tot⟩
theorem PanesAt.below {w w' : World} {p : Nat} {wd ad : Int} {b : Nat} {m} (h : PanesAt w p wd ad b m) (hb : Below w.heap.size w w') : PanesAt w' p wd ad b m :=
  h.same (hb.block p (blk_lt h.blk)) (hb.block b h.map.lt)

theorem width_calls (w : World) (p : Nat) (wd ad : Int) (b : Nat) (m) (h : PanesAt w p wd ad b m) :
    Calls Try.prog 28 #[.pointer (some ⟨p, 0, none⟩)] w fun e w' => e = .returned (.int .i64 wd) ∧ w = w' := by
  have c0 := h.c0
  clear h
  go_enter Try.func28, Try.ntmps28
  go_wp2
  go_ret
  exact ⟨rfl, rfl⟩

theorem tdiv_floor (x wd : Int) (h : 1 ≤ wd) (hx : x < 0) : (x.tmod wd < 0 ∧ x.tdiv wd - 1 = x / wd) ∨ (0 ≤ x.tmod wd ∧ x.tdiv wd = x / wd) := by
  have e1 := Int.mul_tdiv_add_tmod x wd
  have e2 : -wd < x.tmod wd := by
    have h3 := Int.tmod_nonneg wd (a := -x) (by omega)
    have h4 : (-x).tmod wd < wd := Int.tmod_lt_of_pos _ (by omega)
    rw [Int.neg_tmod] at h3 h4
    omega
  have e3 : x.tmod wd ≤ 0 := by
    have h3 := Int.tmod_nonneg wd (a := -x) (by omega)
    rw [Int.neg_tmod] at h3
    omega
  rcases Int.lt_or_le (x.tmod wd) 0 with h0 | h0
  · refine .inl ⟨h0, ?_⟩
    have : x / wd = x.tdiv wd - 1 := by
      rw [Int.ediv_eq_iff_of_pos (by omega)]
      rw [Int.mul_comm] at e1
      constructor <;> simp only [Int.sub_mul, Int.add_mul, Int.one_mul] <;> omega
    omega
  · refine .inr ⟨h0, ?_⟩
    have : x / wd = x.tdiv wd := by
      rw [Int.ediv_eq_iff_of_pos (by omega)]
      rw [Int.mul_comm] at e1
      constructor <;> (try simp only [Int.add_mul, Int.one_mul]) <;> omega
    omega

theorem neg_le_div (x wd : Int) (h : 1 ≤ wd) (hx : x ≤ 0) : x ≤ x / wd := by
  rw [Int.le_ediv_iff_mul_le (by omega)]
  have := Int.mul_le_mul_of_nonpos_left hx h
  omega

theorem ret_int {k : IntKind} {a b : Int} (h : a = b) : Ending.returned (.int k a) = .returned (.int k b) := by rw [h]

theorem pane_calls (w : World) (p : Nat) (wd : Int) (x : Int) (c0 : w.cell? ⟨p, 0, none⟩ = some (.int .i64 wd)) (h1 : 1 ≤ wd) (h2 : wd ≤ 1099511627776) (x1 : -9223372036854775808 ≤ x) (x2 : x ≤ 9223372036854775807) :
    Calls Try.prog 41 #[.pointer (some ⟨p, 0, none⟩), .int .i64 x] w fun e w' => e = .returned (.int .i64 (x / wd)) ∧ w = w' := by
  have hne : (wd == 0) = false := by simp; omega
  by_cases hx : 0 ≤ x
  · have hm : decide (x % wd < 0) = false := by have := Int.emod_nonneg x (b := wd) (by omega); simp; omega
    go_enter Try.func41, Try.ntmps41
    go_wp2
    go_ret
    exact ⟨rfl, rfl⟩
  · have hd0 : -9223372036854775808 ≤ x.tdiv wd := by
      rcases tdiv_floor x wd h1 (by omega) with ⟨_, h⟩ | ⟨_, h⟩
      · have := neg_le_div x wd h1 (by omega)
        omega
      · have := neg_le_div x wd h1 (by omega)
        omega
    have hd1 : x.tdiv wd ≤ 0 := by
      have h3 := Int.tdiv_nonneg (a := -x) (b := wd) (by omega) (by omega)
      rw [Int.neg_tdiv] at h3; omega
    have hx' : x < 0 := by omega
    have hw : wrap64 (x.tdiv wd) = x.tdiv wd := by unfold wrap64; omega
    rcases tdiv_floor x wd h1 (by omega) with ⟨hm, he⟩ | ⟨hm, he⟩
    · have hb : -9223372036854775808 ≤ x / wd := by
        have := neg_le_div x wd h1 (by omega); omega
      have hb2 : -9223372036854775808 ≤ x.tdiv wd - 1 := by omega
      have hw2 : wrap64 (x.tdiv wd - 1) = x.tdiv wd - 1 := by unfold wrap64; omega
      have HE := Lib.hid he
      clear he hb
      have hm' : decide (x.tmod wd < 0) = true := by simpa using hm
      go_enter Try.func41, Try.ntmps41
      go_wp2
      go_ret
      exact ⟨ret_int HE.out, rfl⟩
    · have HE := Lib.hid he
      clear he
      have hm' : decide (x.tmod wd < 0) = false := by simpa using hm
      go_enter Try.func41, Try.ntmps41
      go_wp2
      go_ret
      exact ⟨ret_int HE.out, rfl⟩

/-- panes of a width, without adds -/
def NewPost (w : World) (n : Int) (e : Ending) (w' : World) : Prop :=
  ∃ p b, e = .returned (.pointer (some ⟨p, 0, none⟩)) ∧ PanesAt w' p (min (max n 1) 1099511627776) 0 b [] ∧ w.heap.size ≤ p ∧ w.heap.size ≤ b ∧ Below w.heap.size w w'

theorem new_end (w : World) (n v : Int) (hv : v = min (max n 1) 1099511627776) :
    NewPost w n (.returned (.pointer (some ⟨w.heap.size + 1, 0, none⟩))) ((w.alloc (.map #[] 0)).alloc (.cells #[.int .i64 v, .int .i64 0, .map (some w.heap.size)] 79)) := by
  subst hv
  have e1 : (w.alloc (.map #[] 0)).heap.size = w.heap.size + 1 := by simp
  refine ⟨w.heap.size + 1, w.heap.size, rfl, ⟨?_, (MapT_made _ _ _ _ w).alloc _, by omega, by omega, by omega, by omega, by simp, by simp [ptot]⟩, by omega, by omega, ((Below.refl _ w).alloc (Nat.le_refl _) _).alloc (by simp) _⟩
  have := blk_new (w.alloc (.map #[] 0)) (.cells #[.int .i64 (min (max n 1) 1099511627776), .int .i64 0, .map (some w.heap.size)] 79)
  rw [e1] at this; exact this

theorem new_calls (w : World) (n : Int) : Calls Try.prog 16 #[.int .i64 n] w (NewPost w n) := by
  have hmm := @run_makeMap Try.prog
  go_enter Try.func16, Try.ntmps16
  go_wp2
  all_goals
    go_ret
    exact new_end w n _ (by omega)

/-! ### Add -/
/-- what an add does to the sums -/
def addTo (m : List ((ByteArray × Int) × Int)) (key : ByteArray) (pn n : Int) : List ((ByteArray × Int) × Int) := if 0 < n then putA m (key, pn) ((lookA m (key, pn)).getD 0 + n) else m
/-- is an add taken? -/
def takes (ad : Int) (key : ByteArray) (x n : Int) : Bool := decide (1 ≤ key.size) && decide (key.size ≤ 24) && decide (0 ≤ x) && decide (x ≤ 1099511627776) && decide (0 ≤ n) && decide (n ≤ 1048576) && decide (ad < 1048576)

def AddPost (w : World) (p : Nat) (wd ad : Int) (b : Nat) (m : List ((ByteArray × Int) × Int)) (key : ByteArray) (x n : Int) (e : Ending) (w' : World) : Prop :=
  e = .returned (.bool (takes ad key x n)) ∧ Fr [p, b] w w' ∧ PanesAt w' p wd (if takes ad key x n then ad + 1 else ad) b (if takes ad key x n then addTo m key (x / wd) n else m)

theorem lookA_mem' {α β : Type} [DecidableEq α] {m : List (α × β)} {k : α} {v : β} (h : lookA m k = some v) : (k, v) ∈ m := by
  simp only [lookA, Option.map_eq_some_iff] at h
  obtain ⟨p, hp, rfl⟩ := h
  have h1 := List.find?_some hp
  have h2 := List.mem_of_find?_eq_some hp
  simp at h1
  rw [← h1]; exact h2
theorem ptot_mem {m : List ((ByteArray × Int) × Int)} (h : ∀ c ∈ m, okCell c) : ∀ c ∈ m, c.2 ≤ ptot m := by
  induction m with
  | nil => simp
  | cons a r ih =>
    have h0 : ∀ l : List ((ByteArray × Int) × Int), (∀ c ∈ l, okCell c) → 0 ≤ ptot l := fun l hl => by
      induction l with
      | nil => simp [ptot]
      | cons a r ih => have := ih (fun c hc => hl c (by simp [hc])); have := (hl a (by simp)).2.2.2; simp only [ptot, List.map_cons, List.sum_cons] at *; omega
    intro c hc
    have h1 := h0 r (fun c hc => h c (by simp [hc]))
    have h2 := (h a (by simp)).2.2.2
    simp only [ptot, List.map_cons, List.sum_cons] at *
    rcases List.mem_cons.1 hc with rfl | hc
    · omega
    · have := ih (fun c hc => h c (by simp [hc])) c hc; omega
theorem old_bd {w : World} {p : Nat} {wd ad : Int} {b : Nat} {m : List ((ByteArray × Int) × Int)} (h : PanesAt w p wd ad b m) (k : ByteArray × Int) : 0 ≤ (lookA m k).getD 0 ∧ (lookA m k).getD 0 ≤ 1099511627776 := by
  cases hl : lookA m k with
  | none => simp
  | some v =>
    have hm := lookA_mem' hl
    have h1 := (h.ok _ hm).2.2.2
    have h2 := ptot_mem h.ok _ hm
    have := h.tot
    have := h.a2
    simp only [Option.getD_some] at *
    omega

theorem ptot_putA {m : List ((ByteArray × Int) × Int)} (hnd : (m.map (·.1)).Nodup) (k : ByteArray × Int) (n : Int) : ptot (putA m k ((lookA m k).getD 0 + n)) = ptot m + n := by
  cases hl : lookA m k with
  | none =>
    have hno : ∀ q ∈ m, q.1 ≠ k := fun q hq e => by
      rw [lookA_mem hnd hq e] at hl; cases hl
    rw [putA_new hno]
    simp [ptot]
  | some v =>
    have hm := lookA_mem' hl
    obtain ⟨j, hj⟩ := List.mem_iff_getElem?.1 hm
    rw [putA_old hnd hj]
    obtain ⟨l1, l2, e1, e2⟩ := List.getElem?_eq_some_iff.1 hj |> fun ⟨h1, h2⟩ => (⟨m.take j, m.drop (j + 1), by rw [← h2]; simp, by simp [Nat.min_eq_left (Nat.le_of_lt h1)]⟩ : ∃ l1 l2, m = l1 ++ (k, v) :: l2 ∧ l1.length = j)
    subst e1
    rw [List.set_append_right _ _ (by omega)]
    simp [ptot, e2]
    omega
theorem mem_putA {α β : Type} [DecidableEq α] {m : List (α × β)} {k : α} {v : β} {q : α × β} (h : q ∈ putA m k v) : q = (k, v) ∨ q ∈ m := by
  unfold putA at h
  split at h
  · obtain ⟨p, hp, e⟩ := List.mem_map.1 h
    split at e
    · exact .inl e.symm
    · exact .inr (e ▸ hp)
  · rcases List.mem_append.1 h with h | h
    · exact .inr h
    · exact .inl (List.mem_singleton.1 h)

theorem add_end {w w2 : World} {p : Nat} {wd ad : Int} {b : Nat} {m : List ((ByteArray × Int) × Int)} {key : ByteArray} {x n : Int} (h : PanesAt w p wd ad b m) (ht : takes ad key x n = true)
    (hf : Fr [p, b] w w2) (hb : w2.heap[p]? = some (.cells #[.int .i64 wd, .int .i64 (ad + 1), .map (some b)] 79 (0, 0))) (hm : MapT Try.prog 82 ekCell (Value.int .i64) w2 b (addTo m key (x / wd) n)) :
    AddPost w p wd ad b m key x n (.returned (.bool true)) w2 := by
  have ht' := ht
  simp only [takes, Bool.and_eq_true, decide_eq_true_eq] at ht'
  have hw1 := h.w1
  have hd0 : 0 ≤ x / wd := Int.ediv_nonneg (by omega) (by omega)
  have hd1 : x / wd ≤ x := Int.ediv_le_self _ (by omega)
  have ha1 := h.a1
  have hob := old_bd h (key, x / wd)
  refine ⟨by rw [ht], hf, ?_⟩
  rw [if_pos ht, if_pos ht]
  refine ⟨hb, hm, h.w1, h.w2, by omega, by omega, ?_, ?_⟩
  · intro c hc
    unfold addTo at hc
    split at hc
    · rcases mem_putA hc with rfl | hc
      · exact ⟨by simp; omega, hd0, by simp; omega, by simp; omega⟩
      · exact h.ok c hc
    · exact h.ok c hc
  · have := h.tot
    unfold addTo
    split
    · rw [ptot_putA h.map.keys]; omega
    · omega

set_option maxHeartbeats 1000000 in
theorem add_calls (w : World) (p : Nat) (wd ad : Int) (b : Nat) (m) (key : ByteArray) (x n : Int) (h : PanesAt w p wd ad b m) (hs : key.size ≤ 9223372036854775807) :
    Calls Try.prog 17 #[.pointer (some ⟨p, 0, none⟩), .string key, .int .i64 x, .int .i64 n] w (AddPost w p wd ad b m key x n) := by
  have c0 := h.c0
  have c1 := h.c1
  have c2 := h.c2
  have f1 := blk_free h.blk 1
  have HF : Hid (takes ad key x n = false → AddPost w p wd ad b m key x n (.returned (.bool false)) w) := fun hn => ⟨by rw [hn], Fr.refl _ _, by rw [hn]; exact h⟩
  have HP := Lib.hid h
  have ha1 := h.a1
  have ha2 := h.a2
  have hw1 := h.w1
  have hw2 := h.w2
  have hob := old_bd h (key, x / wd)
  clear h
  generalize hold : (lookA m (key, x / wd)).getD 0 = old at *
  have HO := Lib.hid hold
  clear hold
  go_enter Try.func17, Try.ntmps17
  go_wp2
  all_goals (try (go_ret; exact HF.out (by simp [takes]; omega)))
  · -- n is more than nought
    have k1 : 1 ≤ key.size := by omega
    have k2 : key.size ≤ 24 := by omega
    have x1 : x ≤ 1099511627776 := by omega
    have n1 : n ≤ 1048576 := by omega
    have a1 : ad < 1048576 := by assumption
    have HT : Hid (takes ad key x n = true) := by show takes ad key x n = true; simp [takes]; omega
    have hd0 : 0 ≤ x / wd := Int.ediv_nonneg (by omega) (by omega)
    have hd1 : x / wd ≤ x := Int.ediv_le_self _ (by omega)
    have hgood := cellGood key (x / wd) (by unfold maxLen; omega) (WalkArith.wf_i64 (by omega))
    have hW : MapT Try.prog 82 ekCell (Value.int .i64) (w.setCell ⟨p, 1, none⟩ (.int .i64 (ad + 1))).drew b m := (HP.out.map.setCell HP.out.ne _).drew
    have hz : ∀ W : World, (zeroValue 2).run Try.prog W = .ok (.int .i64 0) W := fun _ => by kernel_rfl
    obtain ⟨W1, W2, s, o1, o2, o3, o4, hm2, fr1, fr2, sz1, sz2⟩ := hW.opAssign cellKeyed ekCell_inj Try.underlying77 hz hgood old HO.out (old + n)
    have hwr : IntKind.i64.wrap (old + n) = old + n := IntWalk.i64_in _ (by omega)
    have HM := Lib.hid hm2
    have HF2 := Lib.hid fr2
    have e1 := fr1.cell (p := ⟨p, 0, none⟩) (by have := blk_lt HP.out.blk; simpa using this) (by have := HP.out.ne; simp; omega)
    unfold ekCell at o1 o2 o3
    clear hm2 fr1 fr2 sz1 sz2 hW hgood hz
    have hx2 : x ≤ 9223372036854775807 := by omega
    go_region_with (go_at_call 41; refine (pane_calls _ _ _ _ ?_ hw1 hw2 (by omega) hx2).mono ?_; (case _ => go_simp); rintro e w' ⟨rfl, rfl⟩)
    all_goals
      go_wp2
      go_ret
      refine add_end HP.out HT.out (((Fr.refl _ w).setCell (.inl (by simp)) _).drew.trans HF2.out (fun y hy => .inl hy) (fun y hy => .inl (by simp at hy; simp [hy]))) ?_ ?_
      · have e2 := blk_set (i := 1) HP.out.blk (.int .i64 (ad + 1))
        exact blk_fr (w := (w.setCell ⟨p, 1, none⟩ (.int .i64 (ad + 1))).drew) e2 HF2.out (by have := HP.out.ne; simp; omega)
      · unfold addTo
        rw [if_pos ‹_›, HO.out]
        exact HM.out
  · -- n is nought
    have HT : Hid (takes ad key x n = true) := by show takes ad key x n = true; simp [takes]; omega
    go_ret
    refine add_end HP.out HT.out ((Fr.refl _ w).setCell (.inl (by simp)) _) (blk_set (i := 1) HP.out.blk (.int .i64 (ad + 1))) ?_
    unfold addTo
    rw [if_neg (by omega)]
    exact HP.out.map.setCell HP.out.ne _
end Go.Proofs.Ytmddlbgdmdepdaa
