/- The contracts of window.fits, May, above, Ends, Holds and of the document's May, End, Holds, Ends, by walks. No condition. -/
import Derived.Test.YtmddlbgdmdepdaaPaneC
set_option linter.unusedVariables false
set_option linter.unusedSimpArgs false
set_option maxRecDepth 100000
namespace Go.Proofs.Ytmddlbgdmdepdaa
open Go.Maps Go.MapKept Go.RowKit Go.ChangeMaps CK

def fitsB (n wd : Int) : Bool := decide (1 ≤ n) && decide (n ≤ 1099511627776) && (n % wd == 0)
def mayB (sz hp wd : Int) : Bool := decide (1 ≤ wd) && (fitsB sz wd && (fitsB hp wd && decide ((sz - 1) / hp < 4096)))
theorem mayB_facts {sz hp wd : Int} (h : mayB sz hp wd = true) : 1 ≤ wd ∧ 1 ≤ sz ∧ sz ≤ 1099511627776 ∧ sz % wd = 0 ∧ 1 ≤ hp ∧ hp ≤ 1099511627776 ∧ hp % wd = 0 ∧ (sz - 1) / hp < 4096 := by
  simp only [mayB, fitsB, Bool.and_eq_true, decide_eq_true_eq, beq_iff_eq] at h
  obtain ⟨h0, ⟨⟨h1, h2⟩, h3⟩, ⟨⟨h4, h5⟩, h6⟩, h7⟩ := h
  exact ⟨h0, h1, h2, h3, h4, h5, h6, h7⟩

/-- it hands back a Bool, and leaves what was there -/
def BoolPost (w : World) (r : Bool) (e : Ending) (w' : World) : Prop := e = .returned (.bool r) ∧ Below w.heap.size w w'
theorem ret_bool {a b : Bool} (h : a = b) : Ending.returned (.bool a) = .returned (.bool b) := by rw [h]

theorem fits_calls (w : World) (n wd : Int) (h : 1 ≤ wd) : Calls Try.prog 102 #[.int .i64 n, .int .i64 wd] w fun e w' => e = .returned (.bool (fitsB n wd)) ∧ w = w' := by
  have hne : (wd == 0) = false := by simp; omega
  go_enter Try.func102, Try.ntmps102
  go_wp2
  all_goals
    go_ret
    refine ⟨ret_bool ?_, rfl⟩
    unfold fitsB
    try simp [*]
    try omega

theorem may_calls (w : World) (sz hp wd : Int) : Calls Try.prog 77 #[.agg #[.int .i64 sz, .int .i64 hp], .int .i64 wd] w (BoolPost w (mayB sz hp wd)) := by
  by_cases h1 : 1 ≤ wd
  · have hd : decide (1 ≤ wd) = true := by simpa using h1
    by_cases h2 : fitsB sz wd = true
    · have h2' := h2
      simp only [fitsB, Bool.and_eq_true, decide_eq_true_eq] at h2'
      have b1 : 1 ≤ sz := h2'.1.1
      have b2 : sz ≤ 1099511627776 := h2'.1.2
      have H2 := Lib.hid h2
      by_cases h3 : fitsB hp wd = true
      · have h3' := h3
        simp only [fitsB, Bool.and_eq_true, decide_eq_true_eq] at h3'
        have hne : (hp == 0) = false := by simp; omega
        have b3 : 1 ≤ hp := h3'.1.1
        have HM : Hid (decide ((sz - 1) / hp < 4096) = mayB sz hp wd) := by show _ = _; simp [mayB, h2, h3, hd]
        have H3 := Lib.hid h3
        clear h2 h3 h2' h3'
        go_enter Try.func77, Try.ntmps77
        go_wp2_with (go_at_call 102; refine (fits_calls _ _ _ h1).mono ?_; rintro e w' ⟨rfl, rfl⟩; first | rw [H2.out] | rw [H3.out])
        go_ret
        exact ⟨ret_bool HM.out, (Below.refl _ _).alloc (Nat.le_refl _) _⟩
      · have h3 : fitsB hp wd = false := by simpa using h3
        have HM : Hid (false = mayB sz hp wd) := by show _ = _; simp [mayB, h3]
        have H3 := Lib.hid h3
        clear h2 h3 h2'
        go_enter Try.func77, Try.ntmps77
        go_wp2_with (go_at_call 102; refine (fits_calls _ _ _ h1).mono ?_; rintro e w' ⟨rfl, rfl⟩; first | rw [H2.out] | rw [H3.out])
        go_ret
        exact ⟨ret_bool HM.out, (Below.refl _ _).alloc (Nat.le_refl _) _⟩
    · have h2 : fitsB sz wd = false := by simpa using h2
      have HM : Hid (false = mayB sz hp wd) := by show _ = _; simp [mayB, h2]
      have H2 := Lib.hid h2
      clear h2
      go_enter Try.func77, Try.ntmps77
      go_wp2_with (go_at_call 102; refine (fits_calls _ _ _ h1).mono ?_; rintro e w' ⟨rfl, rfl⟩; rw [H2.out])
      go_ret
      exact ⟨ret_bool HM.out, (Below.refl _ _).alloc (Nat.le_refl _) _⟩
  · have hd : decide (1 ≤ wd) = false := by simpa using h1
    have HM : Hid (false = mayB sz hp wd) := by show _ = _; simp [mayB, hd]
    go_enter Try.func77, Try.ntmps77
    go_wp2
    go_ret
    exact ⟨ret_bool HM.out, (Below.refl _ _).alloc (Nat.le_refl _) _⟩

/-- the document's May is the program's -/
theorem rmay_calls (w : World) (sz hp wd : Int) : Calls Try.prog 79 #[.agg #[.int .i64 sz, .int .i64 hp], .int .i64 wd] w (BoolPost w (mayB sz hp wd)) := by
  have fin : ∀ b : Bool, b = mayB sz hp wd → BoolPost w (mayB sz hp wd) (.returned (.bool b)) (w.alloc (.cells #[.int .i64 sz, .int .i64 hp] 44)) := fun b hb => ⟨ret_bool hb, (Below.refl _ _).alloc (Nat.le_refl _) _⟩
  have HF := Lib.hid fin
  clear fin
  by_cases h1 : 1 ≤ wd
  · have hne : (wd == 0) = false := by simp; omega
    by_cases h2 : 1 ≤ hp
    · have hne2 : (hp == 0) = false := by simp; omega
      go_enter Try.func79, Try.ntmps79
      go_wp2
      all_goals
        go_ret
        refine HF.out _ ?_
        unfold mayB fitsB
        try simp [*]
        try omega
    · go_enter Try.func79, Try.ntmps79
      go_wp2
      all_goals
        go_ret
        refine HF.out _ ?_
        unfold mayB fitsB
        try simp [*]
        try omega
  · go_enter Try.func79, Try.ntmps79
    go_wp2
    go_ret
    refine HF.out _ ?_
    unfold mayB
    simp [h1]
    omega

def endB (hp e : Int) : Bool := decide (hp ≤ e) && (decide (e ≤ 2199023255552) && (e % hp == 0))
theorem rend_calls (w : World) (sz hp e : Int) (h : 1 ≤ hp) : Calls Try.prog 80 #[.agg #[.int .i64 sz, .int .i64 hp], .int .i64 e] w (BoolPost w (endB hp e)) := by
  have fin : ∀ b : Bool, b = endB hp e → BoolPost w (endB hp e) (.returned (.bool b)) (w.alloc (.cells #[.int .i64 sz, .int .i64 hp] 44)) := fun b hb => ⟨ret_bool hb, (Below.refl _ _).alloc (Nat.le_refl _) _⟩
  have HF := Lib.hid fin
  clear fin
  have hne : (hp == 0) = false := by simp; omega
  go_enter Try.func80, Try.ntmps80
  go_wp2
  all_goals
    go_ret
    refine HF.out _ ?_
    unfold endB
    try simp [*]
    try omega

def holdsB (sz x e : Int) : Bool := decide (x < e) && decide (e - sz ≤ x)
theorem rholds_calls (w : World) (sz hp x e : Int) (h : -9223372036854775808 ≤ e - sz) (h' : e - sz ≤ 9223372036854775807) :
    Calls Try.prog 81 #[.agg #[.int .i64 sz, .int .i64 hp], .int .i64 x, .int .i64 e] w (BoolPost w (holdsB sz x e)) := by
  have fin : ∀ b : Bool, b = holdsB sz x e → BoolPost w (holdsB sz x e) (.returned (.bool b)) (w.alloc (.cells #[.int .i64 sz, .int .i64 hp] 44)) := fun b hb => ⟨ret_bool hb, (Below.refl _ _).alloc (Nat.le_refl _) _⟩
  have HF := Lib.hid fin
  clear fin
  go_enter Try.func81, Try.ntmps81
  go_wp2
  all_goals
    go_ret
    refine HF.out _ ?_
    unfold holdsB
    try simp [*]
    try omega
end Go.Proofs.Ytmddlbgdmdepdaa
