/- The contracts of window.above, Ends, Holds, isEnd, At, by walks. No condition. -/
import Derived.Test.YtmddlbgdmdepdaaWinA
import Derived.OwnWalk
set_option linter.unusedVariables false
set_option linter.unusedSimpArgs false
set_option maxRecDepth 100000
namespace Go.Proofs.Ytmddlbgdmdepdaa
open Go.Maps Go.MapKept Go.RowKit Go.ChangeMaps CK

def abv (hop first : Int) (n : Nat) : List Value := (List.range n).map fun (i : Nat) => Value.int .i64 (first + (i : Int) * hop)
theorem abv_len (hop first : Int) (n : Nat) : (abv hop first n).length = n := by simp [abv]
theorem abv_succ (hop first : Int) (n : Nat) : abv hop first (n + 1) = abv hop first n ++ [.int .i64 (first + (n : Int) * hop)] := by simp [abv, List.range_succ]
/-- one more end is told -/
def more (stay : Int → Int → Bool) (hop first : Int) (n : Nat) : Prop := first + (n : Int) * hop ≤ 2199023255552 ∧ stay (first + (n : Int) * hop) n = true
/-- the first end above a tick -/
def firstE (tick hp : Int) : Int := if hp ≤ tick then (tick / hp + 1) * hp else hp

theorem infoInt : (Try.prog.info? 3).map (fun i => (i.zero, i.size, i.bytes)) = some (some (.int .i64 0), 1, 8) := by kernel_rfl

def AbovePost (w : World) (stay : Int → Int → Bool) (hop first : Int) (r : Ending) (w' : World) : Prop :=
  ∃ n v, r = .returned v ∧ w'.ownsRow w.heap.size 3 1 v n (abv hop first n) ∧ (∀ i, i < n → more stay hop first i) ∧ ¬ more stay hop first n ∧ Below w.heap.size w w'
def NilPost (w : World) (r : Ending) (w' : World) : Prop := r = .returned (.slice none 0 0) ∧ Below w.heap.size w w'

theorem above_no (f : Nat) (cap : Array Value) (sz hp tick : Int) (w : World) (h : mayB sz hp 1 = false) :
    Calls Try.prog 75 #[.agg #[.int .i64 sz, .int .i64 hp], .int .i64 tick, .func (.func f) #[] cap] w (NilPost w) := by
  have H := Lib.hid h
  clear h
  go_enter Try.func75, Try.ntmps75
  go_wp2_with (go_at_call 77; refine (may_calls _ _ _ _).mono ?_; rintro e w' ⟨rfl, hb⟩; rw [H.out]; have HB := Lib.hid hb; clear hb)
  go_ret
  exact ⟨rfl, ((Below.refl _ _).alloc (Nat.le_refl _) _).trans (HB.out.mono (by simp))⟩

theorem firstE_facts (tick hp : Int) (h1 : 1 ≤ hp) (h2 : hp ≤ 1099511627776) (ht : tick < 2199023255552) : 1 ≤ firstE tick hp ∧ firstE tick hp ≤ 2199023255552 + hp ∧ tick < firstE tick hp := by
  unfold firstE
  split
  · have hd0 : 0 ≤ tick / hp := Int.ediv_nonneg (by omega) (by omega)
    have hd1 : (tick / hp) * hp ≤ tick := Int.ediv_mul_le _ (by omega)
    have hd5 : tick < (tick / hp + 1) * hp := by have := Int.lt_ediv_add_one_mul_self tick (b := hp) (by omega); omega
    have hd3 : (tick / hp + 1) * hp ≤ tick + hp := by rw [Int.add_mul]; omega
    omega
  · omega

set_option maxHeartbeats 1000000 in
theorem above_calls (f : Nat) (cap : Array Value) (stay : Int → Int → Bool) (sz hp tick : Int) (w : World)
   (hstay : ∀ (e c : Int) w', 1 ≤ e → e ≤ 2199023255552 → Below w.heap.size w w' → Calls Try.prog f (#[.int .i64 e, .int .i64 c] ++ cap) w' fun r w'' => r = .returned (.bool (stay e c)) ∧ w' = w'')
   (hcf : ∀ args (W : World), Sem.run Try.prog (callFunc f args) W = .ok (.enter f args) W) (hm : mayB sz hp 1 = true) (ht : tick < 2199023255552) :
   Calls Try.prog 75 #[.agg #[.int .i64 sz, .int .i64 hp], .int .i64 tick, .func (.func f) #[] cap] w (AbovePost w stay hp (firstE tick hp)) := by
  have hm' := hm
  simp only [mayB, fitsB, Bool.and_eq_true, decide_eq_true_eq] at hm'
  obtain ⟨_, ⟨⟨h3, h4⟩, _⟩, ⟨⟨h1, h2⟩, _⟩, _⟩ := hm'
  have H := Lib.hid hm
  have HST := Lib.hid hstay
  clear hm hstay
  obtain ⟨i0, hi, hz0, hz1, hz2⟩ := info_parts infoInt
  have hne : (hp == 0) = false := by simp; omega
  have HFF := Lib.hid (firstE_facts tick hp h1 h2 ht)
  obtain ⟨fst, hfst⟩ : ∃ fst, fst = firstE tick hp := ⟨_, rfl⟩
  rw [← hfst]
  by_cases ht0 : hp ≤ tick
  case' pos =>
    have hd0 : 0 ≤ tick / hp := Int.ediv_nonneg (by omega) (by omega)
    have hd1 : (tick / hp) * hp ≤ tick := Int.ediv_mul_le _ (by omega)
    have hd2 : tick / hp ≤ tick := Int.ediv_le_self _ (by omega)
    have hd3 : (tick / hp + 1) * hp ≤ tick + hp := by rw [Int.add_mul]; omega
    have hd4 : 1 ≤ (tick / hp + 1) * hp := Int.mul_pos (by omega) (by omega)
    have hw1 : wrap64 (tick / hp + 1) = tick / hp + 1 := by unfold wrap64; omega
    have HE : Hid (fst = (tick / hp + 1) * hp) := hfst.trans (if_pos ht0)
    clear hfst
    go_enter Try.func75, Try.ntmps75
    go_wp2_with (go_at_call 77; refine (may_calls _ _ _ _).mono ?_; rintro e w' ⟨rfl, hb⟩; rw [H.out]; have hc0 := hb.cell (p := ⟨w.heap.size, 0, none⟩) (by simp); have hc1 := hb.cell (p := ⟨w.heap.size, 1, none⟩) (by simp))
    go_quiet (fail)
    go_wp2
  case' neg =>
    have hd : decide (hp ≤ tick) = false := by simpa using ht0
    have HE : Hid (fst = hp) := hfst.trans (if_neg ht0)
    clear hfst
    go_enter Try.func75, Try.ntmps75
    go_wp2_with (go_at_call 77; refine (may_calls _ _ _ _).mono ?_; rintro e w' ⟨rfl, hb⟩; rw [H.out]; have hc0 := hb.cell (p := ⟨w.heap.size, 0, none⟩) (by simp); have hc1 := hb.cell (p := ⟨w.heap.size, 1, none⟩) (by simp))
  all_goals
    have HB : Hid (Below (w.heap.size + 1) (w.alloc (Obj.cells #[.int .i64 sz, .int .i64 hp] 44)) w') := by show Below _ _ _; have := hb; simpa using this
    clear hb hc0 hc1
    have HFF' : Hid (1 ≤ fst ∧ fst ≤ 2199023255552 + hp) := by
      show _ ∧ _
      have := HFF.out; unfold firstE at this
      have := HE.out
      split at * <;> omega
    go_loopw [7, 8] (fun v e wr => ∃ (n : Nat) (o : Option Addr) (cp : Nat), v = .slice o n cp ∧ wr.ownsRow (w.heap.size + 1) 3 1 (.slice o n cp) n (abv hp fst n) ∧ e = .int .i64 (fst + (n : Int) * hp) ∧ Hid (∀ i, i < n → more stay hp fst i) ∧ fst + (n : Int) * hp ≤ 2199023255552 + hp ∧
        Hid (Below (w.heap.size + 1) (w.alloc (Obj.cells #[.int .i64 sz, .int .i64 hp] 44)) wr)) (fun _ e _ => (2199023255552 + hp + 1 - intOf e).toNat)
    case atStart => exact ⟨0, _, _, rfl, World.ownsRow_nil _ _ _ _, by rw [HE.out]; simp, fun i hi => by omega, by have := HFF'.out; simp; omega, by first | exact HB | exact below_drewN HB.out _⟩
    case round =>
      obtain ⟨n, so, sc, rfl, hown, rfl, hall, hle, hbw⟩ := hrel
      have hl1 : 1 ≤ fst + (n : Int) * hp := by have := HFF'.out; have := Int.mul_nonneg (a := (n : Int)) (b := hp) (by omega) (by omega); omega
      have hn8 : (n : Int) ≤ 4398046511104 := by have := Int.mul_le_mul_of_nonneg_left (c := (n : Int)) h1 (by omega); have := HFF'.out; omega
      have hc1 : wr.cell? ⟨w.heap.size, 1, none⟩ = some (.int .i64 hp) := by rw [hbw.out.cell (p := ⟨w.heap.size, 1, none⟩) (by simp)]; simp [go_sem]
      by_cases hend : fst + (n : Int) * hp ≤ 2199023255552
      · have HL : Hid (Below w.heap.size w wr) := ((Below.refl _ _).alloc (Nat.le_refl _) _).trans (hbw.out.mono (by omega))
        by_cases hst : stay (fst + (n : Int) * hp) n = true
        · have HSS := Lib.hid hst
          have HW := Lib.hid hown
          have hbase : w.heap.size + 1 ≤ wr.heap.size := by have := hbw.out.size; simpa using this
          clear hst hown
          go_wp2_with fail
          refine (HST.out _ _ _ hl1 hend HL.out).mono ?_
          rintro e w2 ⟨rfl, rfl⟩
          rw [HSS.out]
          go_wp2_with (at_builtin; refine wpList_append_own _ rfl _ _ 98 rfl (w.heap.size + 1) 3 i0 (.int .i64 0) 1 8 Try.underlying98 hi hz0 hz1 hz2 rfl (by decide) _ _ _ rfl (HW.out.alloc _) ⟨wr.heap.size, 0, none⟩ 1 1 [.int .i64 (fst + (n : Int) * hp)] rfl rfl ?c1 ?c2 ?c3 ?c4 ?c5 ?_)
          case c1 => exact cell_one_new _ _ _
          case c2 => exact ints_oneCell .i64 [_]
          case c3 => unfold maxLen; omega
          case c4 => omega
          case c5 => simp; omega
          intro v' w3 hown' hgrow _
          have hb3 : Below (w.heap.size + 1) wr w3 := below_append HW.out hbase hgrow
          have hc1' : w3.cell? ⟨w.heap.size, 1, none⟩ = some (.int .i64 hp) := by rw [hb3.cell (p := ⟨w.heap.size, 1, none⟩) (by simp)]; exact hc1
          have HO := Lib.hid hown'
          have HB3 := Lib.hid hb3
          clear hown' hgrow hb3 hc1
          obtain ⟨so', sc', rfl⟩ := ownsRow_shape HO.out
          go_wp2
          go_roundw
          case rel =>
            refine ⟨n + 1, _, _, rfl, ?_, ?_, ?_, ?_, hbw.out.trans HB3.out⟩
            · have := HO.out; rw [← abv_succ] at this; exact this
            · congr 1; rw [Int.natCast_add, Int.add_mul]; omega
            · intro i hi'
              rcases Nat.lt_or_ge i n with h | h
              · exact hall.out i h
              · obtain rfl : i = n := by omega
                exact ⟨hend, HSS.out⟩
            · rw [Int.natCast_add, Int.add_mul]; omega
          case measure => simp [intOf]; omega
        · have hst' : stay (fst + (n : Int) * hp) n = false := by simpa using hst
          have HSS := Lib.hid hst'
          have HW := Lib.hid hown
          clear hst hst' hown
          go_wp2_with fail
          refine (HST.out _ _ _ hl1 hend HL.out).mono ?_
          rintro e w2 ⟨rfl, rfl⟩
          rw [HSS.out]
          go_wp2
          go_ret
          exact ⟨n, _, rfl, ownsRow_lower HW.out (by omega), hall.out, (fun h => by have h2 := h.2; rw [HSS.out] at h2; cases h2), HL.out⟩
      · have hd : decide (fst + (n : Int) * hp ≤ 2199023255552) = false := by simpa using hend
        go_wp2
        go_ret
        exact ⟨n, _, rfl, ownsRow_lower hown (by omega), hall.out, fun h => absurd h.1 (by omega), ((Below.refl _ _).alloc (Nat.le_refl _) _).trans (hbw.out.mono (by omega))⟩

/-! ### Holds, Ends -/
theorem holds1_calls (e c x sz : Int) (b2 b3 : Nat) (w : World) (h2: w.cell? ⟨b2, 0, none⟩ = some (.int .i64 sz)) (h3 : w.cell? ⟨b3, 0, none⟩ = some (.int .i64 x)) (s0 : 1 ≤ sz) (s1 : sz ≤ 1099511627776) (e0 : 1 ≤ e) (e1 : e ≤ 2199023255552) :
    Calls Try.prog 76 #[.int .i64 e, .int .i64 c, .pointer (some ⟨b2, 0, none⟩), .pointer (some ⟨b3, 0, none⟩)] w fun r w' => r = .returned (.bool (decide (e - sz ≤ x))) ∧ w = w' := by
  go_enter Try.func76, Try.ntmps76
  go_wp2
  go_ret
  exact ⟨rfl, rfl⟩

/-- what Holds tells -/
def HoldsPost (w : World) (sz hp x : Int) (r : Ending) (w' : World) : Prop := AbovePost w (fun e _ => decide (e - sz ≤ x)) hp (firstE x hp) r w'

theorem abovePost_later {w w1 w' : World} {stay : Int → Int → Bool} {hop first : Int} {r : Ending} (h : AbovePost w1 stay hop first r w') (hb : Below w.heap.size w w1) : AbovePost w stay hop first r w' := by
  obtain ⟨n, v, h1, h2, h3, h4, h5⟩ := h
  exact ⟨n, v, h1, ownsRow_lower h2 hb.size, h3, h4, hb.trans (h5.mono hb.size)⟩

theorem holds_no (w : World) (sz hp x : Int) (h : mayB sz hp 1 = false ∨ x < 0 ∨ 1099511627776 < x) :
    Calls Try.prog 53 #[.agg #[.int .i64 sz, .int .i64 hp], .int .i64 x] w (NilPost w) := by
  have fin : ∀ w', Below (w.heap.size + 1 + 1) ((w.alloc (.cells #[.int .i64 sz, .int .i64 hp] 44)).alloc (.cells #[.int .i64 x] 3)) w' → NilPost w (.returned (.slice none 0 0)) w' :=
    fun w' hb => ⟨rfl, (((Below.refl _ w).alloc (Nat.le_refl _) _).alloc (by simp) _).trans (hb.mono (by omega))⟩
  have HF := Lib.hid fin
  clear fin
  by_cases hx : x < 0
  · go_enter Try.func53, Try.ntmps53
    go_wp2
    go_ret
    exact HF.out _ (Below.refl _ _)
  · by_cases hx2 : 1099511627776 < x
    · go_enter Try.func53, Try.ntmps53
      go_wp2
      go_ret
      exact HF.out _ (Below.refl _ _)
    · have hm : mayB sz hp 1 = false := by rcases h with h | h | h <;> first | exact h | omega
      have HM := Lib.hid hm
      clear h hm
      have d1 : decide (1099511627776 < x) = false := by simpa using hx2
      go_enter Try.func53, Try.ntmps53
      go_wp2_with (go_at_call 75; refine (above_no _ _ _ _ _ _ HM.out).mono ?_; rintro e w' ⟨rfl, hb⟩; have HB := Lib.hid hb; clear hb)
      go_ret
      exact HF.out _ (HB.out.mono (by simp))

theorem holds_calls (w : World) (sz hp x : Int) (h : mayB sz hp 1 = true) (x0 : 0 ≤ x) (x1 : x ≤ 1099511627776) :
    Calls Try.prog 53 #[.agg #[.int .i64 sz, .int .i64 hp], .int .i64 x] w (HoldsPost w sz hp x) := by
  have hm' := h
  simp only [mayB, fitsB, Bool.and_eq_true, decide_eq_true_eq] at hm'
  obtain ⟨_, ⟨⟨h3, h4⟩, _⟩, _⟩ := hm'
  have hcf : ∀ args (W : World), Sem.run Try.prog (callFunc 76 args) W = .ok (.enter 76 args) W := fun _ _ => by kernel_rfl
  have HM := Lib.hid h
  have HC := Lib.hid hcf
  clear h hcf
  go_enter Try.func53, Try.ntmps53
  go_wp2_with fail
  refine (above_calls 76 _ (fun e _ => decide (e - sz ≤ x)) sz hp x _ (fun e c w' e0 e1 hb => ?_) HC.out HM.out (by omega)).mono ?_
  · refine holds1_calls e c x sz _ _ w' ?_ ?_ h3 h4 e0 e1
    · rw [hb.cell (by simp <;> omega)]; simp [go_sem]
    · rw [hb.cell (by simp <;> omega)]; simp [go_sem]
  · intro e w' hp'
    have HPo := Lib.hid hp'
    obtain ⟨n, v, rfl, _⟩ := hp'
    go_wp2
    go_ret
    exact abovePost_later HPo.out (((Below.refl _ w).alloc (Nat.le_refl _) _).alloc (by simp) _)
end Go.Proofs.Ytmddlbgdmdepdaa
