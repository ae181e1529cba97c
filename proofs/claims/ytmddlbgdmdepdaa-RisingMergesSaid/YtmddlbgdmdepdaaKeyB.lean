/- The contract of pane.Keys, by a walk. No condition. -/
import Derived.Test.YtmddlbgdmdepdaaKeyA
import Derived.Deep.LoopGhost
set_option linter.unusedVariables false
set_option linter.unusedSimpArgs false
set_option maxRecDepth 100000
namespace Go.Proofs.Ytmddlbgdmdepdaa
open Go.Maps Go.MapKept Go.RowKit Go.ChangeMaps CK

def elemB (l : List ByteArray) (k : ByteArray) : Bool := l.any fun x => decide (x = k)
theorem elemB_iff (l : List ByteArray) (k : ByteArray) : elemB l k = true ↔ k ∈ l := by
  unfold elemB
  rw [List.any_eq_true]
  exact ⟨fun ⟨x, h, e⟩ => by simp at e; subst e; exact h, fun h => ⟨k, h, by simp⟩⟩
/-- the keys that have something in the panes from f up to e, each once -/
def keysIn (m : List ((ByteArray × Int) × Int)) (f e : Int) : List ByteArray := m.foldl (fun l c => if f ≤ c.1.2 ∧ c.1.2 < e then (if elemB l c.1.1 = true then l else l ++ [c.1.1]) else l) []
theorem strGood (s : ByteArray) (hs : s.size ≤ maxLen) : GoodK Try.prog 9 (.string s) := ⟨_, WideMaps.keyOf_string_mk Try.underlying9 hs⟩
theorem str_inj : ∀ x y : ByteArray, Value.string x = Value.string y → x = y := fun x y h => by cases h; rfl
theorem strKeyed : Keyed Try.prog 9 := string_keyed Try.underlying9


theorem keysIn_snoc (m : List ((ByteArray × Int) × Int)) (c : (ByteArray × Int) × Int) (f e : Int) : keysIn (m ++ [c]) f e = if f ≤ c.1.2 ∧ c.1.2 < e then (if elemB (keysIn m f e) c.1.1 = true then keysIn m f e else keysIn m f e ++ [c.1.1]) else keysIn m f e := by
  unfold keysIn
  rw [List.foldl_append]
  rfl
theorem keysIn_len (m : List ((ByteArray × Int) × Int)) (f e : Int) : (keysIn m f e).length ≤ m.length := by
  have : ∀ r : List ((ByteArray × Int) × Int), (keysIn r.reverse f e).length ≤ r.length := by
    intro r
    induction r with
    | nil => simp [keysIn]
    | cons c r ih =>
      rw [List.reverse_cons, keysIn_snoc, List.length_cons]
      split
      · split
        · omega
        · rw [List.length_append]; simp; omega
      · omega
  have := this m.reverse
  rwa [List.reverse_reverse, List.length_reverse] at this
theorem keysIn_nodup (m : List ((ByteArray × Int) × Int)) (f e : Int) : (keysIn m f e).Nodup := by
  have : ∀ r : List ((ByteArray × Int) × Int), (keysIn r.reverse f e).Nodup := by
    intro r
    induction r with
    | nil => simp [keysIn]
    | cons c r ih =>
      rw [List.reverse_cons, keysIn_snoc]
      split
      · split
        · exact ih
        · rename_i h
          rw [List.nodup_append]
          refine ⟨ih, by simp, fun a ha b hb e => ?_⟩
          simp at hb; subst hb; subst e; exact h ((elemB_iff _ _).2 ha)
      · exact ih
  have := this m.reverse
  rwa [List.reverse_reverse] at this
theorem keysIn_mem (m : List ((ByteArray × Int) × Int)) (f e : Int) (k : ByteArray) : k ∈ keysIn m f e ↔ ∃ c ∈ m, c.1.1 = k ∧ f ≤ c.1.2 ∧ c.1.2 < e := by
  have : ∀ r : List ((ByteArray × Int) × Int), k ∈ keysIn r.reverse f e ↔ ∃ c ∈ r.reverse, c.1.1 = k ∧ f ≤ c.1.2 ∧ c.1.2 < e := by
    intro r
    induction r with
    | nil => simp [keysIn]
    | cons c r ih =>
      rw [List.reverse_cons, keysIn_snoc]
      constructor
      · intro h
        split at h
        · rename_i hc
          split at h
          · obtain ⟨d, hd, h2⟩ := ih.1 h; exact ⟨d, List.mem_append_left _ hd, h2⟩
          · rcases List.mem_append.1 h with h | h
            · obtain ⟨d, hd, h2⟩ := ih.1 h; exact ⟨d, List.mem_append_left _ hd, h2⟩
            · simp at h; exact ⟨c, by simp, h.symm, hc⟩
        · obtain ⟨d, hd, h2⟩ := ih.1 h; exact ⟨d, List.mem_append_left _ hd, h2⟩
      · rintro ⟨d, hd, h1, h2⟩
        rcases List.mem_append.1 hd with hd | hd
        · have := ih.2 ⟨d, hd, h1, h2⟩
          split
          · split
            · exact this
            · exact List.mem_append_left _ this
          · exact this
        · simp at hd; subst hd; subst h1
          rw [if_pos h2]
          split
          · exact (elemB_iff _ _).1 (by assumption)
          · simp
  have := this m.reverse
  rwa [List.reverse_reverse] at this
theorem keysIn_perm {m m' : List ((ByteArray × Int) × Int)} (h : m.Perm m') (f e : Int) : (keysIn m f e).Perm (keysIn m' f e) := by
  refine (List.perm_ext_iff_of_nodup (keysIn_nodup _ _ _) (keysIn_nodup _ _ _)).2 fun k => ?_
  rw [keysIn_mem, keysIn_mem]
  exact ⟨fun ⟨c, hc, h'⟩ => ⟨c, h.mem_iff.1 hc, h'⟩, fun ⟨c, hc, h'⟩ => ⟨c, h.mem_iff.2 hc, h'⟩⟩
theorem put_seen (l : List ByteArray) (k : ByteArray) : putA (l.map fun x => (x, true)) k true = (if elemB l k = true then l else l ++ [k]).map fun x => (x, true) := by
  unfold putA
  by_cases h : k ∈ l
  · rw [if_pos (by rw [List.any_eq_true]; exact ⟨(k, true), List.mem_map.2 ⟨k, h, rfl⟩, by simp⟩), if_pos ((elemB_iff _ _).2 h), List.map_map]
    refine List.map_congr_left fun x _ => ?_
    simp only [Function.comp]
    split
    · rename_i e; rw [e]
    · rfl
  · rw [if_neg (fun h' => by
      rw [List.any_eq_true] at h'
      obtain ⟨p, hp, e⟩ := h'
      obtain ⟨x, hx, rfl⟩ := List.mem_map.1 hp
      simp at e; subst e; exact h hx), if_neg (fun h' => h ((elemB_iff _ _).1 h')), List.map_append]
    rfl
end Go.Proofs.Ytmddlbgdmdepdaa
