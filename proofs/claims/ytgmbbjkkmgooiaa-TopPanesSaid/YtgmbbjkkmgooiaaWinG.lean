/- The contracts of the law's own same and of the document's Ends, by walks. No condition. -/
import Derived.Test.YtgmbbjkkmgooiaaWinD
import Derived.Test.YtgmbbjkkmgooiaaArgs
set_option linter.unusedVariables false
set_option linter.unusedSimpArgs false
namespace Go.Proofs.Ytgmbbjkkmgooiaa
open Go.Maps Go.MapKept Go.RowKit Go.ChangeMaps CK Go.Proofs.YtgmbbjkkmgooiaaW.PrintLast

def IntsAt (w : World) (l : List Int) (v : Value) : Prop := SliceR 1 (fun _ n cs => cs = [.int .i64 n]) w l v
theorem IntsAt.below {w w' : World} {l : List Int} {v : Value} (h : IntsAt w l v) (hb : Below w.heap.size w w') : IntsAt w' l v := SliceR.below h hb fun _ _ h => h
theorem ints_of_own {w : World} {B : Nat} {e : TypeId} {v : Value} {n : Nat} {l : List Int} (h : w.ownsRow B e 1 v n (l.map (Value.int .i64))) : IntsAt w l v := by
  have hl : n = l.length := by have := h.1; simp at this; omega
  subst hl
  rcases Nat.eq_zero_or_pos l.length with h0 | h0
  · obtain rfl : l = [] := List.eq_nil_of_length_eq_zero h0
    obtain ⟨_, h⟩ := h
    rcases h with ⟨rfl, _⟩ | ⟨g, cp, cur, rfl, _, _, _, h4, _⟩
    · exact .inl ⟨rfl, _, _, rfl, Nat.zero_le _⟩
    · exact .inl ⟨rfl, _, _, rfl, h4⟩
  · have h' := h
    obtain ⟨g, cp, rfl, h1, h2, h3, h4⟩ := ownsRow_open h h0
    obtain ⟨_, h⟩ := h'
    have hcp : cp ≤ maxLen := by
      rcases h with ⟨h, _⟩ | ⟨g', cp', cur, h, _, _, _, h5, _⟩
      · cases h
      · cases h; exact h5
    refine .inr ⟨g, 0, cp, rfl, fun e => by rw [e] at h0; simp at h0, h1, hcp, h3, fun i hi => ⟨[.int .i64 l[i]], rfl, rfl, fun j hj => ?_⟩⟩
    obtain rfl : j = 0 := by omega
    have := h4 i (by omega)
    simp only [Nat.mul_one, Nat.zero_add, Nat.add_zero]
    rw [this]
    simp [hi]

set_option maxHeartbeats 400000 in
theorem same_calls (w : World) (l1 l2 : List Int) (v1 v2 : Value) (h1 : IntsAt w l1 v1) (h2 : IntsAt w l2 v2) :
    Calls Try.prog 16 #[v1, v2] w (BoolPost w (decide (l1 = l2))) := by
  by_cases hl : l1.length = l2.length
  · rcases h1 with ⟨rfl, o1, c1, rfl, _⟩ | ⟨b1, o1, c1, rfl, hn1, h11, h12, h13, h14⟩
    · obtain rfl : l2 = [] := List.eq_nil_of_length_eq_zero hl.symm
      obtain ⟨o2, c2, rfl, _⟩ := SliceR.shape h2
      clear h2
      have hd : Hid (decide (([] : List Int) = []) = true) := by simp [Hid]
      go_enter Try.func16, Try.ntmps16
      go_wp2
      refine wp_loop_rounds 1 ?_
      rw [rounds_succ]
      go_wp2
      go_ret
      exact ⟨ret_bool (by simp), Below.refl _ _⟩
    · rcases h2 with ⟨rfl, o2, c2, rfl, _⟩ | ⟨b2, o2, c2, rfl, hn2, h21, h22, h23, h24⟩
      · exact absurd (List.eq_nil_of_length_eq_zero hl) hn1
      · have H14 : Hid (∀ i (hi : i < l1.length), w.cell? ⟨b1, o1 + i, none⟩ = some (.int .i64 l1[i])) := fun i hi => by
          obtain ⟨ce, _, rfl, h⟩ := h14 i hi; simpa using h 0 (by omega)
        have H24 : Hid (∀ i (hi : i < l2.length), w.cell? ⟨b2, o2 + i, none⟩ = some (.int .i64 l2[i])) := fun i hi => by
          obtain ⟨ce, _, rfl, h⟩ := h24 i hi; simpa using h 0 (by omega)
        have hN1 := Lib.hid hn1
        have hN2 := Lib.hid hn2
        clear h14 h24 hn1 hn2
        obtain ⟨n, hn⟩ : ∃ n, n = l1.length := ⟨_, rfl⟩
        have hn2 : n = l2.length := hn.trans hl
        rw [← hn, ← hn2]
        have hmx : n ≤ 9223372036854775807 := by unfold maxLen at *; omega
        have HN1 := Lib.hid hn
        have HN2 := Lib.hid hn2
        clear hn hn2 hl h11 h12 h21 h22
        go_enter Try.func16, Try.ntmps16
        go_wp2
        go_loopg [13] n (fun m i wr => ∃ k : Nat, k + m = n ∧ i = .int .i64 k ∧ Hid (Below w.heap.size w wr) ∧ Hid (∀ i, i < k → l1[i]? = l2[i]?))
        case atStart => exact ⟨0, by omega, rfl, Below.refl _ _, fun i hi => by omega⟩
        case round =>
          obtain ⟨k, hk, rfl, HB, heq⟩ := hrel
          by_cases hkn : k < n
          · have ck1 : wr.cell? ⟨b1, o1 + k, none⟩ = some (.int .i64 (l1[k]'(by rw [← HN1.out]; exact hkn))) := (HB.out.cell h13).trans (H14.out k _)
            have ck2 : wr.cell? ⟨b2, o2 + k, none⟩ = some (.int .i64 (l2[k]'(by rw [← HN2.out]; exact hkn))) := (HB.out.cell h23).trans (H24.out k _)
            have e1 : l1[k]? = some (l1[k]'(by rw [← HN1.out]; exact hkn)) := List.getElem?_eq_getElem _
            have e2 : l2[k]? = some (l2[k]'(by rw [← HN2.out]; exact hkn)) := List.getElem?_eq_getElem _
            generalize (l1[k]'(by rw [← HN1.out]; exact hkn)) = x1 at *
            generalize (l2[k]'(by rw [← HN2.out]; exact hkn)) = x2 at *
            have E1 := Lib.hid e1
            have E2 := Lib.hid e2
            clear e1 e2
            by_cases hx : x1 = x2
            · subst hx
              go_wp2
              go_quiet (fail)
              go_wp2
              go_roundg (n - (k + 1))
              case measure => omega
              case rel =>
                refine ⟨k + 1, by omega, by go_num, below_drewN HB.out _, fun i hi => ?_⟩
                rcases Nat.lt_or_ge i k with h | h
                · exact heq.out i h
                · obtain rfl : i = k := by omega
                  rw [E1.out, E2.out]
            · have hne : (x1 != x2) = true := by rw [bne_iff_ne]; exact hx
              have HX := Lib.hid hx
              clear hx
              go_wp2
              go_quiet (fail)
              go_wp2
              go_ret
              refine ⟨ret_bool ?_, below_drewN HB.out _⟩
              symm
              rw [decide_eq_false_iff_not]
              intro e
              have h1 := E1.out
              rw [e, E2.out] at h1
              exact HX.out (Option.some.inj h1).symm
          · obtain rfl : k = n := by omega
            go_wp2
            go_ret
            refine ⟨ret_bool ?_, HB.out⟩
            symm
            rw [decide_eq_true_iff]
            refine List.ext_getElem? fun i => ?_
            rcases Nat.lt_or_ge i k with h | h
            · exact heq.out i h
            · rw [List.getElem?_eq_none (by rw [← HN1.out]; exact h), List.getElem?_eq_none (by rw [← HN2.out]; exact h)]
  · obtain ⟨o1, c1, rfl, _⟩ := SliceR.shape h1
    obtain ⟨o2, c2, rfl, _⟩ := SliceR.shape h2
    have hne : ((l1.length : Int) != (l2.length : Int)) = true := by rw [bne_iff_ne]; omega
    have HL : Hid (decide (l1 = l2) = false) := by show _ = _; rw [decide_eq_false_iff_not]; intro e; rw [e] at hl; exact hl rfl
    clear h1 h2 hl
    go_enter Try.func16, Try.ntmps16
    go_wp2
    go_ret
    exact ⟨ret_bool HL.out.symm, Below.refl _ _⟩

/-! ### the document's Ends -/
def endsStay (t : Int) (e c : Int) : Bool := decide (e ≤ t) && decide (c < 4096)
theorem rends_no (w : World) (sz hp f t : Int) (h : mayB sz hp 1 = false ∨ 2199023255552 < f) :
    Calls Try.prog 18 #[.agg #[.int .i64 sz, .int .i64 hp], .int .i64 f, .int .i64 t] w fun e w' => ∃ v, e = .returned v ∧ IntsAt w' [] v ∧ Below w.heap.size w w' := by
  have hcase : ∃ b, mayB sz hp 1 = b ∧ (b = false ∨ b = true ∧ 2199023255552 < f) := by
    cases hb : mayB sz hp 1
    · exact ⟨false, rfl, .inl rfl⟩
    · exact ⟨true, rfl, .inr ⟨rfl, by rw [hb] at h; simpa using h⟩⟩
  obtain ⟨b, hb, hc⟩ := hcase
  have HM := Lib.hid hb
  clear h hb
  rcases hc with rfl | ⟨rfl, hc⟩
  all_goals
    go_enter Try.func18, Try.ntmps18
    go_wp2_with fail
    refine (rmay_calls _ _ _ _).mono ?_
    rintro e w1 ⟨rfl, hb⟩
    rw [HM.out]
    go_wp2
    go_ret
    exact ⟨_, rfl, .inl ⟨rfl, _, _, rfl, Nat.zero_le _⟩, (((Below.refl _ w).alloc (Nat.le_refl _) _).alloc (by simp) _).trans ((show Below _ _ _ from hb).mono (by simp <;> omega))⟩
theorem _root_.Int.le_mul_of_pos_right' (a b : Int) (ha : 1 ≤ a) (hb : 1 ≤ b) : a ≤ a * b := by
  have := Int.mul_le_mul_of_nonneg_left (c := a) hb (by omega)
  omega
theorem ownsRow_empty {w : World} {B g : Nat} {e : TypeId} {s : Nat} (h : w.heap[g]? = some (.cells #[] e (0, 0))) (hB : B ≤ g) : w.ownsRow B e s (.slice (some ⟨g, 0, none⟩) 0 0) 0 [] :=
  ⟨by simp, .inr ⟨g, 0, #[], rfl, hB, h, Nat.le_refl _, Nat.zero_le _, by simp, by simp⟩⟩

set_option maxRecDepth 100000 in
set_option maxHeartbeats 1000000 in
theorem rends_calls (w : World) (sz hp f t : Int) (hm : mayB sz hp 1 = true) (hf : f ≤ 2199023255552) :
    Calls Try.prog 18 #[.agg #[.int .i64 sz, .int .i64 hp], .int .i64 f, .int .i64 t] w (EndsPost w hp f t) := by
  obtain ⟨_, h1, h2, _, h3, h4, _, h5⟩ := mayB_facts hm
  obtain ⟨i0, hi, hz0, hz1, hz2⟩ := info_parts infoInt
  have hne : (hp == 0) = false := by simp; omega
  have HM := Lib.hid hm
  clear hm
  have hd0 : f / hp ≤ f ∨ f < hp := by
    rcases Int.lt_or_le f hp with h | h
    · exact .inr h
    · exact .inl (Int.ediv_le_self _ (by omega))
  -- the number of the first end
  obtain ⟨q0, hq0⟩ : ∃ q0, q0 = (if hp ≤ f then f / hp + 1 else 1) := ⟨_, rfl⟩
  have hfst : firstE f hp = q0 * hp := by rw [hq0]; unfold firstE; split <;> simp
  have hq1 : 1 ≤ q0 := by rw [hq0]; split; (have := Int.ediv_nonneg (a := f) (b := hp) (by omega) (by omega); omega); omega
  have hq2 : q0 * hp ≤ 2199023255552 + hp := by
    rw [← hfst]; unfold firstE; split
    · have := Int.ediv_mul_le f (b := hp) (by omega); rw [Int.add_mul]; omega
    · omega
  by_cases ht0 : hp ≤ f
  case' pos =>
    have hd1 : 0 ≤ f / hp := Int.ediv_nonneg (by omega) (by omega)
    have hd2 : f / hp ≤ f := Int.ediv_le_self _ (by omega)
    have hdd : decide (hp ≤ f) = true := by simpa using ht0
    have hQ : Hid (q0 = f / hp + 1) := hq0.trans (if_pos ht0)
  case' neg =>
    have hdd : decide (hp ≤ f) = false := by simpa using ht0
    have hQ : Hid (q0 = 1) := hq0.trans (if_neg ht0)
  all_goals
    unfold EndsPost
    rw [hfst]
    clear hq0 hfst hd0
    go_enter Try.func18, Try.ntmps18
    go_wp2_with fail
    refine (rmay_calls _ _ _ _).mono ?_
    rintro e w1 ⟨rfl, hb⟩
    rw [HM.out]
    have hb' : Below (w.heap.size + 2) ((w.alloc (.cells #[.int .i64 sz, .int .i64 hp] 23)).alloc (.cells #[] 3)) w1 := by have := hb; simpa using this
    have BK : Hid (w1.heap[w.heap.size]? = some (.cells #[.int .i64 sz, .int .i64 hp] 23 (0, 0))) := blk_below (blk_old (blk_new w _) _) hb' (by omega)
    have BE : Hid (w1.heap[w.heap.size + 1]? = some (.cells #[] 3 (0, 0))) := blk_below (by have := blk_new (w.alloc (.cells #[.int .i64 sz, .int .i64 hp] 23)) (.cells #[] 3); simpa using this) hb' (by omega)
    have HB : Hid (Below w.heap.size w w1) := (((Below.refl _ w).alloc (Nat.le_refl _) _).alloc (by simp) _).trans (hb'.mono (by omega))
    have c0 : w1.cell? ⟨w.heap.size, 0, none⟩ = some (.int .i64 sz) := blk_cell BK.out 0
    have c1 : w1.cell? ⟨w.heap.size, 1, none⟩ = some (.int .i64 hp) := blk_cell BK.out 1
    clear hb hb'
    go_wp2_with fail
    go_loopw [7, 8] (fun v e wr => ∃ (n : Nat) (o : Option Addr) (cp : Nat), v = .slice o n cp ∧ wr.ownsRow (w.heap.size + 1) 3 1 (.slice o n cp) n (abv hp (q0 * hp) n) ∧ e = .int .i64 (q0 + (n : Int)) ∧ Hid (∀ i, i < n → more (endsStay t) hp (q0 * hp) i) ∧ n ≤ 4096 ∧ Hid (q0 * hp + (n : Int) * hp ≤ 2199023255552 + hp) ∧
        Hid (Below w.heap.size w wr) ∧ Hid (w.heap.size + 1 ≤ wr.heap.size) ∧ Hid (wr.heap[w.heap.size]? = some (.cells #[.int .i64 sz, .int .i64 hp] 23 (0, 0)))) (fun _ e _ => (4398046511104 + 4096 - intOf e).toNat)
    case atStart => exact ⟨0, _, _, rfl, ownsRow_empty BE.out (Nat.le_refl _), by rw [hQ.out]; simp, fun i hi => by omega, by omega, (by show _ ≤ _; simp; omega), HB, Nat.le_of_lt (blk_lt BE.out), BK⟩
    case round =>
      clear c0 c1
      obtain ⟨n, so, sc, rfl, hown, rfl, hall, hn, hle, HB, HS, BK⟩ := hrel
      have c0 : wr.cell? ⟨w.heap.size, 0, none⟩ = some (.int .i64 sz) := blk_cell BK.out 0
      have c1 : wr.cell? ⟨w.heap.size, 1, none⟩ = some (.int .i64 hp) := blk_cell BK.out 1
      obtain ⟨e, he⟩ : ∃ e, e = (q0 + (n : Int)) * hp := ⟨_, rfl⟩
      have he2 : q0 * hp + (n : Int) * hp = e := by rw [he, Int.add_mul]
      have hE0 : q0 ≤ q0 * hp := Int.le_mul_of_pos_right' q0 hp hq1 h3
      have hn0 := Int.mul_nonneg (a := (n : Int)) (b := hp) (by omega) (by omega)
      have hE1 : 1 ≤ e := by omega
      have hE2 : e ≤ 2199023255552 + hp := by have := hle.out; omega
      have hq3 : q0 + (n : Int) ≤ e := by rw [he]; exact Int.le_mul_of_pos_right' _ hp (by omega) h3
      have HE := Lib.hid he
      have HE2 := Lib.hid he2
      have hw1 : wrap64 ((q0 + (n : Int)) * hp) = e := by rw [← he]; unfold wrap64; omega
      have HW := Lib.hid hown
      have hdiv : (q0 + (n : Int) ≤ 2199023255552 / hp) ↔ e ≤ 2199023255552 := by rw [Int.le_ediv_iff_mul_le (by omega), ← he]
      clear he he2 hown hE0 hn0
      by_cases g1 : n < 4096
      · by_cases g2 : e ≤ 2199023255552
        · have d2 : decide (q0 + (n : Int) ≤ 2199023255552 / hp) = true := by simpa using hdiv.2 g2
          by_cases g3 : e ≤ t
          · clear hdiv
            go_wp2_with (at_builtin; refine wpList_append_own _ rfl _ _ 24 rfl (w.heap.size + 1) 3 i0 (.int .i64 0) 1 8 Try.underlying24 hi hz0 hz1 hz2 rfl (by decide) _ _ _ rfl (HW.out.alloc _) ⟨wr.heap.size, 0, none⟩ 1 1 [.int .i64 e] rfl rfl (cell_one_new _ _ _) (ints_oneCell .i64 [_]) (by unfold maxLen; omega) (by omega) (by have := HS.out; simp; omega) ?_; intro v' w3 hown' hgrow hnil)
            have hb3 : Below (w.heap.size + 1) wr w3 := below_append HW.out HS.out hgrow
            have hc1' : w3.cell? ⟨w.heap.size, 1, none⟩ = some (.int .i64 hp) := by rw [hb3.cell (p := ⟨w.heap.size, 1, none⟩) (by simp)]; exact c1
            have HO := Lib.hid hown'
            have HB3 := Lib.hid hb3
            clear hown' hgrow hb3 c1 c0 hnil
            obtain ⟨so', sc', rfl⟩ := ownsRow_shape HO.out
            go_wp2
            go_roundw
            case rel =>
              refine ⟨n + 1, _, _, rfl, ?_, by go_num, ?_, by omega, ?_, HB.out.trans (HB3.out.mono (by omega)), Nat.le_trans HS.out HB3.out.size, blk_below BK.out HB3.out (by omega)⟩
              · have := HO.out; rw [abv_succ, HE2.out]; exact this
              · intro i hi'
                rcases Nat.lt_or_ge i n with h | h
                · exact hall.out i h
                · obtain rfl : i = n := by omega
                  refine ⟨by rw [HE2.out]; exact g2, ?_⟩
                  rw [HE2.out]; simp [endsStay]; omega
              · show _ ≤ _
                have := HE2.out
                rw [Int.natCast_add, Int.add_mul]; omega
            case measure => simp [intOf]; omega
          · clear hdiv
            go_wp2
            go_ret
            exact ⟨n, _, rfl, ownsRow_lower HW.out (by omega), hall.out, fun h => by have := h.2; rw [HE2.out] at this; simp at this; omega, HB.out⟩
        · have d2 : decide (q0 + (n : Int) ≤ 2199023255552 / hp) = false := by have := fun h => g2 (hdiv.1 h); simpa using this
          clear hdiv
          go_wp2
          go_ret
          exact ⟨n, _, rfl, ownsRow_lower HW.out (by omega), hall.out, fun h => by have := h.1; rw [HE2.out] at this; omega, HB.out⟩
      · clear hdiv
        go_wp2
        go_ret
        exact ⟨n, _, rfl, ownsRow_lower HW.out (by omega), hall.out, fun h => by have := h.2; simp at this; omega, HB.out⟩
end Go.Proofs.Ytgmbbjkkmgooiaa
