/- The contract of pane.Sum, by a walk. No condition. -/
import Derived.Test.YtmddlbgdmdepdaaPaneB
import Derived.Deep.LoopGhost
set_option linter.unusedVariables false
set_option linter.unusedSimpArgs false
set_option maxRecDepth 100000
namespace Go.Proofs.Ytmddlbgdmdepdaa
open Go.Maps Go.MapKept Go.RowKit Go.ChangeMaps CK

theorem psum_snoc (m : List ((ByteArray × Int) × Int)) (c : (ByteArray × Int) × Int) (key : ByteArray) (f e : Int) :
    psum (m ++ [c]) key f e = psum m key f e + if c.1.1 = key ∧ f ≤ c.1.2 ∧ c.1.2 < e then c.2 else 0 := by
  unfold psum
  rw [List.filter_append, List.map_append, List.sum_append]
  congr 1
  by_cases h : c.1.1 = key ∧ f ≤ c.1.2 ∧ c.1.2 < e <;> simp [List.filter_cons, h]
theorem psum_perm {m m' : List ((ByteArray × Int) × Int)} (h : m.Perm m') (key : ByteArray) (f e : Int) : psum m key f e = psum m' key f e :=
  sum_perm ((h.filter _).map _)
theorem ptot_perm {m m' : List ((ByteArray × Int) × Int)} (h : m.Perm m') : ptot m = ptot m' := sum_perm (h.map _)
theorem ptot_nonneg : ∀ {m : List ((ByteArray × Int) × Int)}, (∀ c ∈ m, okCell c) → 0 ≤ ptot m
  | [], _ => by simp [ptot]
  | a :: r, h => by
    have h1 := ptot_nonneg (m := r) fun c hc => h c (by simp [hc])
    have h2 := (h a (by simp)).2.2.2
    simp only [ptot, List.map_cons, List.sum_cons] at *; omega
theorem psum_le : ∀ {m : List ((ByteArray × Int) × Int)}, (∀ c ∈ m, okCell c) → ∀ key f e, 0 ≤ psum m key f e ∧ psum m key f e ≤ ptot m
  | [], _, _, _, _ => by simp [psum, ptot]
  | a :: r, h, key, f, e => by
    have h1 := psum_le (m := r) (fun c hc => h c (by simp [hc])) key f e
    have h2 := (h a (by simp)).2.2.2
    simp only [psum, ptot, List.map_cons, List.sum_cons, List.filter_cons] at *
    split
    · simp only [List.map_cons, List.sum_cons]; omega
    · omega
theorem ptot_app (a b : List ((ByteArray × Int) × Int)) : ptot (a ++ b) = ptot a + ptot b := by simp [ptot]

/-- it hands back a number, and leaves what was there -/
def IntPost (w : World) (n : Int) (e : Ending) (w' : World) : Prop := e = .returned (.int .i64 n) ∧ Below w.heap.size w w'

set_option maxHeartbeats 1000000 in
theorem sum_calls (w : World) (p : Nat) (wd ad : Int) (b : Nat) (m) (key : ByteArray) (f e : Int) (h : PanesAt w p wd ad b m)
    (f1 : -9223372036854775808 ≤ f) (f2 : f ≤ 9223372036854775807) (e1 : -9223372036854775808 ≤ e) (e2 : e ≤ 9223372036854775807) :
    Calls Try.prog 19 #[.pointer (some ⟨p, 0, none⟩), .string key, .int .i64 f, .int .i64 e] w (IntPost w (psum m key (f / wd) (e / wd))) := by
  have c0 := h.c0
  have c2 := h.c2
  have hw1 := h.w1
  have hw2 := h.w2
  have HP := Lib.hid h
  have hmap := h.map
  clear h
  go_enter Try.func19, Try.ntmps19
  go_wp2_with (first
    | (go_at_call 41; refine (pane_calls _ _ _ _ c0 hw1 hw2 (by assumption) (by assumption)).mono ?_; rintro e w' ⟨rfl, rfl⟩)
    | (at_range; refine wpList_rangeT _ rfl _ _ rfl _ _ Try.underlying77 ekCell (Value.int .i64) b m rfl hmap ?_; intro w0 hit hb0 hs0))
  go_frame
  generalize hF : f / wd = fd at *
  generalize hE : e / wd = ed at *
  clear hF hE
  have HB := Lib.hid hb0
  clear hb0 hmap
  obtain ⟨r, hr⟩ : ∃ r, r = w.heap.size := ⟨_, rfl⟩
  rw [← hr] at hit
  rw [← hr]
  have HR := Lib.hid hr
  clear hr hs0
  go_loopg [11] m.length (fun k v wr => ∃ vis left, k = left.length ∧ v = .int .i64 (psum vis key fd ed) ∧ IterT Try.prog 82 ekCell (Value.int .i64) wr r b m vis left ∧ Hid (Below w.heap.size w wr))
  case atStart => exact ⟨[], m, rfl, rfl, hit, HB⟩
  case round =>
    obtain ⟨vis, left, rfl, rfl, hit, HB⟩ := hrel
    go_wp2_with (at_next; refine wpList_nextT _ rfl _ rfl _ ekCell (Value.int .i64) r b m vis left rfl hit ?_ ?_)
    · intro hl
      have HL := Lib.hid hl
      have HI := Lib.hid hit
      clear hl hit
      go_wp2
      go_ret
      refine ⟨ret_int (psum_perm ?_ _ _ _), HB.out⟩
      have := HI.out.perm
      rw [HL.out, List.append_nil] at this
      exact this
    · intro s pn n r1 r2 w' hl hit' hfr hsz hen
      have hen' := hen w' rfl rfl
      have HL := Lib.hid hl
      have HI := Lib.hid hit
      have HI' := Lib.hid hit'
      have HFr := Lib.hid hfr
      clear hl hit hit' hfr hsz hen
      unfold ekCell at hen'
      have hpm := HI'.out.perm
      have hok : ∀ c ∈ vis ++ [((s, pn), n)], okCell c := fun c hc => HP.out.ok c (hpm.mem_iff.1 (List.mem_append_left _ hc))
      have hb1 := psum_le (fun c hc => hok c (List.mem_append_left _ hc)) key fd ed
      have hn0 := (hok ((s, pn), n) (by simp)).2.2.2
      have htl : ptot vis + n ≤ 1099511627776 := by
        have h1 := ptot_perm hpm
        rw [ptot_app, ptot_app] at h1
        have h2 := ptot_nonneg (m := r1 ++ r2) fun c hc => HP.out.ok c (hpm.mem_iff.1 (List.mem_append_right _ hc))
        have h3 := HP.out.tot
        have h4 := HP.out.a2
        simp only [ptot, List.map_cons, List.map_nil, List.sum_cons, List.sum_nil] at *
        omega
      have hn0' : 0 ≤ n := hn0
      have HS := Lib.hid (psum_snoc vis ((s, pn), n) key fd ed)
      have hlt : Hid (w.heap.size ≤ r) := Nat.le_of_eq HR.out.symm
      clear hn0 hok hpm
      go_wp2
      all_goals
        go_roundg (r1 ++ r2).length
        case measure => rw [HL.out]; simp; try omega
        case rel =>
          refine ⟨vis ++ [((s, pn), n)], r1 ++ r2, rfl, ?_, HI'.out.same (Below.heap_alloc _ _ _ HI'.out.lt.2.1) (Below.heap_alloc _ _ _ HI'.out.lt.1), ?_⟩
          · rw [HS.out]
            first
            | rw [if_pos ⟨ba_eq.1 ‹_›, ‹_›, ‹_›⟩]
            | (rw [if_neg (fun h => by have := h.1; have h2 := h.2.1; have h3 := h.2.2; first | omega | exact absurd (ba_eq.2 this) ‹_›)]; simp)
          · exact (HB.out.trans (HFr.out.below (Nat.le_trans HB.out.size (Nat.le_refl _)) (by simp; exact hlt.out))).alloc (Nat.le_trans HB.out.size (by have := HFr.out.size; omega)) _
end Go.Proofs.Ytmddlbgdmdepdaa
