/- The contracts of the document's long products and of its order of rises, by walks. No condition. -/
import Derived.Test.YtmddlbgdmdepdaaRatB
import Derived.Test.YtmddlbgdmdepdaaRefA
import Derived.Test.YtmddlbgdmdepdaaKitF
import Derived.IntWalk
set_option linter.unusedVariables false
set_option linter.unusedSimpArgs false
set_option maxRecDepth 100000
namespace Go.Proofs.Ytmddlbgdmdepdaa
open Go.Maps Go.MapKept Go.RowKit Go.ChangeMaps CK Go.Proofs.YtmddlbgdmdepdaaW.PrintLast

theorem blk_new3 (w : World) (o o' o'' : Obj) : (((w.alloc o).alloc o').alloc o'').heap[w.heap.size + 1 + 1]? = some o'' := by
  have := blk_new2 (w.alloc o) o' o''
  rwa [show (w.alloc o).heap.size = w.heap.size + 1 by simp] at this
/-- a long number's two words -/
def lw (A : Int) : Array Value := #[.int .u64 (A / 18446744073709551616), .int .u64 (A % 18446744073709551616)]
theorem rplus_calls (A B : Int) (w : World) (a0 : 0 ≤ A) (b0 : 0 ≤ B) (h : A + B < 340282366920938463463374607431768211456) :
    Calls Try.prog 111 #[.agg (lw A), .agg (lw B)] w fun e w' => e = .returned (.agg (lw (A + B))) ∧ Below w.heap.size w w' := by
  obtain ⟨p, hp⟩ : ∃ p, p = A / 18446744073709551616 := ⟨_, rfl⟩
  obtain ⟨q, hq⟩ : ∃ q, q = A % 18446744073709551616 := ⟨_, rfl⟩
  obtain ⟨r, hr⟩ : ∃ r, r = B / 18446744073709551616 := ⟨_, rfl⟩
  obtain ⟨s, hs⟩ : ∃ s, s = B % 18446744073709551616 := ⟨_, rfl⟩
  obtain ⟨x, hx⟩ : ∃ x, x = (A + B) / 18446744073709551616 := ⟨_, rfl⟩
  obtain ⟨y, hy⟩ : ∃ y, y = (A + B) % 18446744073709551616 := ⟨_, rfl⟩
  have w1 := wrapu (q + s)
  have w2 := wrapu (p + r)
  have w3 := wrapu (IntKind.u64.wrap (p + r) + 1)
  have eA : lw A = #[.int .u64 p, .int .u64 q] := by rw [hp, hq]; rfl
  have eB : lw B = #[.int .u64 r, .int .u64 s] := by rw [hr, hs]; rfl
  have eC : lw (A + B) = #[.int .u64 x, .int .u64 y] := by rw [hx, hy]; rfl
  rw [eA, eB, eC]
  clear eA eB eC
  have HB : Hid (Below w.heap.size w (((w.alloc (.cells #[.int .u64 p, .int .u64 q] 130)).alloc (.cells #[.int .u64 r, .int .u64 s] 130)).alloc (.cells #[.int .u64 x, .int .u64 y] 130))) := (((Below.refl _ w).alloc (Nat.le_refl _) _).alloc (by simp) _).alloc (by simp; omega) _
  by_cases hc : q + s < 18446744073709551616
  · have d : decide (IntKind.u64.wrap (q + s) < q) = false := by rw [decide_eq_false_iff_not]; omega
    have HX : Hid (IntKind.u64.wrap (p + r) = x ∧ IntKind.u64.wrap (q + s) = y) := ⟨by omega, by omega⟩
    clear w1 w2 w3 hp hq hr hs hx hy
    go_enter Try.func111, Try.ntmps111
    go_wp2
    refine bodyPost_ret (results_cell_row rfl _ _ (w.heap.size + 1 + 1) 130 _ (0, 0) _ rfl (blk_new3 w _ _ _) Try.underlying130 rfl (by kernel_rfl)) rfl ⟨?_, ?_⟩
    · rw [HX.out.1, HX.out.2]
    · rw [HX.out.1, HX.out.2]; exact HB.out
  · have d : decide (IntKind.u64.wrap (q + s) < q) = true := by rw [decide_eq_true_iff]; omega
    have HX : Hid (IntKind.u64.wrap (IntKind.u64.wrap (p + r) + 1) = x ∧ IntKind.u64.wrap (q + s) = y) := ⟨by omega, by omega⟩
    clear w1 w2 w3 hp hq hr hs hx hy
    go_enter Try.func111, Try.ntmps111
    go_wp2
    refine bodyPost_ret (results_cell_row rfl _ _ (w.heap.size + 1 + 1) 130 _ (0, 0) _ rfl (blk_new3 w _ _ _) Try.underlying130 rfl (by kernel_rfl)) rfl ⟨?_, ?_⟩
    · rw [HX.out.1, HX.out.2]
    · rw [HX.out.1, HX.out.2]; exact HB.out
/-- the loop's state of Times -/
def TimesI (w : World) (x y : Int) (wr : World) (b V C : Int) : Prop :=
  0 ≤ V ∧ 0 ≤ C ∧ 0 ≤ b ∧ V + C * b = x * y ∧ C ≤ 2 * (x * y) + x ∧
  wr.heap[w.heap.size]? = some (.cells #[.int .u64 0, .int .u64 0] 130 (0, 0)) ∧
  wr.heap[w.heap.size + 1]? = some (.cells (lw V) 130 (0, 0)) ∧
  wr.heap[w.heap.size + 1 + 1]? = some (.cells (lw C) 130 (0, 0)) ∧ Below w.heap.size w wr
theorem rtimes_calls (x y : Int) (w : World) (x0 : 0 ≤ x) (x1 : x < 18446744073709551616) (y0 : 0 ≤ y) (y1 : y < 18446744073709551616) (hxy : 4 * (x * y) + 2 * x < 340282366920938463463374607431768211456) :
    Calls Try.prog 83 #[.int .u64 x, .int .u64 y] w fun e w' => e = .returned (.agg (lw (x * y))) ∧ Below w.heap.size w w' := by
  have HI : Hid (TimesI w x y (((w.alloc (.cells #[.int .u64 0, .int .u64 0] 130)).alloc (.cells #[.int .u64 0, .int .u64 0] 130)).alloc (.cells #[.int .u64 0, .int .u64 x] 130)) y 0 x) := by
    refine ⟨by omega, x0, y0, by omega, ?_, blk_old (blk_old (blk_new w _) _) _, blk_old (blk_new2 w _ _) _, ?_, (((Below.refl _ w).alloc (Nat.le_refl _) _).alloc (by simp) _).alloc (by simp; omega) _⟩
    · have := Int.mul_nonneg x0 y0; omega
    · have e : lw x = #[.int .u64 0, .int .u64 x] := by unfold lw; rw [Int.ediv_eq_zero_of_lt x0 x1, Int.emod_eq_of_lt x0 x1]
      rw [e]; exact blk_new3 w _ _ _
  obtain ⟨xy, hxyd⟩ : ∃ z, z = x * y := ⟨_, rfl⟩
  go_enter Try.func83, Try.ntmps83
  go_wp2
  go_loopg [1] y.toNat (fun m b wr => ∃ B V C : Int, b = .int .u64 B ∧ B.toNat = m ∧ B < 18446744073709551616 ∧ Hid (TimesI w x y wr B V C))
  case atStart => exact ⟨y, 0, x, rfl, rfl, y1, HI⟩
  case round =>
    clear HI
    obtain ⟨B, V, C, rfl, hm, hB, HI⟩ := hrel
    by_cases hB0 : 0 < B
    · have d0 : decide (0 < B) = true := by simpa using hB0
      obtain ⟨i0, i1, i2, i3, i4, k0, k1, k2, ib⟩ := HI.out
      clear HI
      obtain ⟨vh, vl, hv⟩ : ∃ vh vl, lw V = #[.int .u64 vh, .int .u64 vl] := ⟨_, _, rfl⟩
      obtain ⟨ch, cl, hc⟩ : ∃ ch cl, lw C = #[.int .u64 ch, .int .u64 cl] := ⟨_, _, rfl⟩
      obtain ⟨dh, dl, hd⟩ : ∃ dh dl, lw (C + C) = #[.int .u64 dh, .int .u64 dl] := ⟨_, _, rfl⟩
      obtain ⟨sh, sl, hs⟩ : ∃ sh sl, lw (V + C) = #[.int .u64 sh, .int .u64 sl] := ⟨_, _, rfl⟩
      rw [hv] at k1
      rw [hc] at k2
      have K0 := Lib.hid k0
      have K1 := Lib.hid k1
      have K2 := Lib.hid k2
      have HBl := Lib.hid ib
      have HI3 := Lib.hid i3
      have hCB : C ≤ x * y := by
        have : C * 1 ≤ C * B := Int.mul_le_mul_of_nonneg_left (by omega) i1
        omega
      have hV : V ≤ x * y := by have := Int.mul_nonneg i1 i2; omega
      have hVC : V + C ≤ x * y := by
        have : C * 1 ≤ C * B := Int.mul_le_mul_of_nonneg_left (by omega) i1
        omega
      have c0 := (blk_cell k1 0).trans rfl
      have c1 := (blk_cell k1 1).trans rfl
      have e0 := (blk_cell k2 0).trans rfl
      have e1 := (blk_cell k2 1).trans rfl
      have hsz := blk_lt k2
      have P1 : Hid (∀ w, Calls Try.prog 111 #[.agg #[.int .u64 vh, .int .u64 vl], .agg #[.int .u64 ch, .int .u64 cl]] w fun e w' => e = .returned (.agg #[.int .u64 sh, .int .u64 sl]) ∧ Below w.heap.size w w') := fun w => by
        have := rplus_calls V C w i0 i1 (by omega)
        rwa [hv, hc, hs] at this
      have P2 : Hid (∀ w, Calls Try.prog 111 #[.agg #[.int .u64 ch, .int .u64 cl], .agg #[.int .u64 ch, .int .u64 cl]] w fun e w' => e = .returned (.agg #[.int .u64 dh, .int .u64 dl]) ∧ Below w.heap.size w w') := fun w => by
        have := rplus_calls C C w i1 i1 (by omega)
        rwa [hc, hd] at this
      replace hv := Lib.hid hv
      replace hc := Lib.hid hc
      replace hd := Lib.hid hd
      replace hs := Lib.hid hs
      clear k0 k1 k2 ib i3 hxyd
      by_cases hodd : B % 2 = 1
      · have dd : (B % 2 == 1) = true := by simp [hodd]
        have HO : Hid ((V + C) + (C + C) * (B / 2) = x * y) := by
          show _ = _
          have e : C * B = (C + C) * (B / 2) + C := by
            have : B = 2 * (B / 2) + 1 := by omega
            generalize B / 2 = z at *
            subst this
            grind
          have := HI3.out
          omega
        clear hodd
        go_wp2_with fail
        refine (P1.out _).mono ?_
        rintro e w3 ⟨rfl, hb⟩
        replace K0 := Lib.hid (blk_below K0.out hb (blk_lt K0.out))
        replace K1 := Lib.hid (blk_below K1.out hb (blk_lt K1.out))
        replace K2 := Lib.hid (blk_below K2.out hb (blk_lt K2.out))
        replace HBl := Lib.hid (HBl.out.trans (hb.mono HBl.out.size))
        clear c0 c1 e0 e1 hb
        have c0 := (blk_cell K1.out 0).trans rfl
        have c1 := (blk_cell K1.out 1).trans rfl
        have f0 := blk_free K1.out 0
        have f1 := blk_free K1.out 1
        have e0 := (blk_cell K2.out 0).trans rfl
        have e1 := (blk_cell K2.out 1).trans rfl
        have hl0 := blk_lt K0.out
        have hl2 := blk_lt K2.out
        go_wp2_with fail
        refine (P2.out _).mono ?_
        rintro e w4 ⟨rfl, hb⟩
        replace K0 := Lib.hid (blk_below (blk_ne (blk_ne K0.out (by simp) _) (by simp) _) hb (by simp; omega))
        replace K1 := Lib.hid (blk_below (blk_set (blk_set K1.out _) _) hb (by simp; omega))
        replace K2 := Lib.hid (blk_below (blk_ne (blk_ne K2.out (by simp) _) (by simp) _) hb (by simp; omega))
        have hbs := HBl.out.size
        replace HBl := Lib.hid (((HBl.out.setCell (Nat.le_succ _) _).setCell (Nat.le_succ _) _).trans (hb.mono (by simp; omega)))
        clear c0 c1 e0 e1 hb f0 f1
        have e0 := (blk_cell K2.out 0).trans rfl
        have e1 := (blk_cell K2.out 1).trans rfl
        have f0 := blk_free K2.out 0
        have f1 := blk_free K2.out 1
        go_wp2
        go_roundg (B / 2).toNat
        case measure => omega
        case rel =>
          refine ⟨B / 2, V + C, C + C, by first | rfl | go_num, rfl, by omega, ?_⟩
          refine ⟨by omega, by omega, by omega, HO.out, by omega, ?_, ?_, ?_, ?_⟩
          · exact blk_ne (blk_ne K0.out (by simp; omega) _) (by simp; omega) _
          · rw [hs.out]; exact blk_ne (blk_ne K1.out (by simp) _) (by simp) _
          · rw [hd.out]; exact blk_set (blk_set K2.out _) _
          · exact (HBl.out.setCell (by simp; omega) _).setCell (by simp; omega) _
      · have dd : (B % 2 == 1) = false := by simp [hodd]
        have HO : Hid (V + (C + C) * (B / 2) = x * y) := by
          show _ = _
          have e : C * B = (C + C) * (B / 2) := by
            have : B = 2 * (B / 2) := by omega
            generalize B / 2 = z at *
            subst this
            grind
          have := HI3.out
          omega
        clear hodd
        have hl0 := blk_lt K0.out
        have hl2 := blk_lt K2.out
        go_wp2_with fail
        refine (P2.out _).mono ?_
        rintro e w4 ⟨rfl, hb⟩
        replace K0 := Lib.hid (blk_below K0.out hb (blk_lt K0.out))
        replace K1 := Lib.hid (blk_below K1.out hb (blk_lt K1.out))
        replace K2 := Lib.hid (blk_below K2.out hb (blk_lt K2.out))
        replace HBl := Lib.hid (HBl.out.trans (hb.mono HBl.out.size))
        clear c0 c1 e0 e1 hb
        have e0 := (blk_cell K2.out 0).trans rfl
        have e1 := (blk_cell K2.out 1).trans rfl
        have f0 := blk_free K2.out 0
        have f1 := blk_free K2.out 1
        go_wp2
        go_roundg (B / 2).toNat
        case measure => omega
        case rel =>
          refine ⟨B / 2, V, C + C, by first | rfl | go_num, rfl, by omega, ?_⟩
          refine ⟨by omega, by omega, by omega, HO.out, by omega, ?_, ?_, ?_, ?_⟩
          · exact blk_ne (blk_ne K0.out (by simp; omega) _) (by simp; omega) _
          · rw [hv.out]; exact blk_ne (blk_ne K1.out (by simp) _) (by simp) _
          · rw [hd.out]; exact blk_set (blk_set K2.out _) _
          · exact (HBl.out.setCell (by simp; omega) _).setCell (by simp; omega) _
    · have hB0' : B = 0 := by have := HI.out.2.2.1; omega
      subst hB0'
      obtain ⟨i0, i1, i2, i3, i4, k0, k1, k2, ib⟩ := HI.out
      have hV : V = x * y := by omega
      obtain ⟨vh, vl, hv⟩ : ∃ vh vl, lw V = #[.int .u64 vh, .int .u64 vl] := ⟨_, _, rfl⟩
      rw [hv] at k1
      have HV := Lib.hid (hV ▸ hv)
      have K0 := Lib.hid k0
      have K1 := Lib.hid k1
      have HBl := Lib.hid ib
      have c0 := (blk_cell k1 0).trans rfl
      have c1 := (blk_cell k1 1).trans rfl
      have g0 := (blk_cell k0 0).trans rfl
      have g1 := (blk_cell k0 1).trans rfl
      have f0 := blk_free k0 0
      have f1 := blk_free k0 1
      clear k0 k1 k2 ib i3 hxyd HI hV hv
      go_wp2
      refine bodyPost_ret (results_cell_row rfl _ _ w.heap.size 130 #[.int .u64 vh, .int .u64 vl] (0, 0) _ rfl (blk_set (blk_set K0.out _) _) Try.underlying130 rfl (by kernel_rfl)) rfl ⟨by rw [HV.out], ?_⟩
      exact (HBl.out.setCell (Nat.le_refl _) _).setCell (Nat.le_refl _) _
theorem lw_lt (A B : Int) : A < B ↔ A / 18446744073709551616 < B / 18446744073709551616 ∨ (A / 18446744073709551616 = B / 18446744073709551616 ∧ A % 18446744073709551616 < B % 18446744073709551616) := by omega
theorem lw_eq (A B : Int) : A = B ↔ A / 18446744073709551616 = B / 18446744073709551616 ∧ A % 18446744073709551616 = B % 18446744073709551616 := by omega
theorem rless_calls (A B : Int) (w : World) :
    Calls Try.prog 84 #[.agg (lw A), .agg (lw B)] w fun e w' => e = .returned (.bool (decide (A < B))) ∧ Below w.heap.size w w' := by
  obtain ⟨p, hp⟩ : ∃ p, A / 18446744073709551616 = p := ⟨_, rfl⟩
  obtain ⟨q, hq⟩ : ∃ q, A % 18446744073709551616 = q := ⟨_, rfl⟩
  obtain ⟨r, hr⟩ : ∃ r, B / 18446744073709551616 = r := ⟨_, rfl⟩
  obtain ⟨s, hs⟩ : ∃ s, B % 18446744073709551616 = s := ⟨_, rfl⟩
  have eA : lw A = #[.int .u64 p, .int .u64 q] := by rw [← hp, ← hq]; rfl
  have eB : lw B = #[.int .u64 r, .int .u64 s] := by rw [← hr, ← hs]; rfl
  have hl := lw_lt A B
  rw [hp, hq, hr, hs] at hl
  rw [eA, eB]
  clear eA eB hp hq hr hs
  have HB : Hid (Below w.heap.size w ((w.alloc (.cells #[.int .u64 p, .int .u64 q] 130)).alloc (.cells #[.int .u64 r, .int .u64 s] 130))) := ((Below.refl _ w).alloc (Nat.le_refl _) _).alloc (by simp) _
  by_cases h1 : p < r
  · have HR : Hid (decide (A < B) = true) := by show _ = _; rw [decide_eq_true_iff]; exact hl.2 (.inl h1)
    have d1 : decide (p < r) = true := by simpa using h1
    rw [HR.out]
    clear hl
    go_enter Try.func84, Try.ntmps84
    go_wp2
    go_ret
    exact ⟨rfl, HB.out⟩
  · have d1 : decide (p < r) = false := by simpa using h1
    by_cases h2 : p = r
    · have HR : Hid (decide (q < s) = decide (A < B)) := by
        show _ = _
        rw [decide_eq_decide, hl]
        constructor
        · intro h; exact .inr ⟨h2, h⟩
        · rintro (h | h)
          · omega
          · exact h.2
      have d2 : (p == r) = true := by simp [h2]
      clear hl h2
      go_enter Try.func84, Try.ntmps84
      go_wp2
      go_ret
      exact ⟨ret_bool HR.out, HB.out⟩
    · have HR : Hid (decide (A < B) = false) := by
        show _ = _
        rw [decide_eq_false_iff_not, hl]
        rintro (h | h)
        · exact h1 h
        · exact h2 h.1
      have d2 : (p == r) = false := by simp [h2]
      rw [HR.out]
      clear hl
      go_enter Try.func84, Try.ntmps84
      go_wp2
      go_ret
      exact ⟨rfl, HB.out⟩
set_option maxHeartbeats 2000000 in
theorem rless19_calls (a b : Rz) (ha : a.ok) (hb : b.ok) (w : World) : Calls Try.prog 62 #[.agg #[.string a.key, .int .i64 a.nw, .int .i64 a.od], .agg #[.string b.key, .int .i64 b.nw, .int .i64 b.od]] w (BoolPost w (decide (cfZ a b < 0))) := by
  obtain ⟨ak, an, ao⟩ := a
  obtain ⟨bk, bn, bo⟩ := b
  simp only [Rz.ok] at ha hb
  obtain ⟨a0, a1, a2, a3⟩ := ha
  obtain ⟨b0, b1, b2, b3⟩ := hb
  show Calls Try.prog _ #[.agg #[.string ak, .int .i64 an, .int .i64 ao], .agg #[.string bk, .int .i64 bn, .int .i64 bo]] w _
  obtain ⟨X, hX⟩ : ∃ X, X = an * (bo + 1) := ⟨_, rfl⟩
  obtain ⟨Y, hY⟩ : ∃ Y, Y = bn * (ao + 1) := ⟨_, rfl⟩
  obtain ⟨xh, xl, hx⟩ : ∃ xh xl, lw X = #[.int .u64 xh, .int .u64 xl] := ⟨_, _, rfl⟩
  obtain ⟨yh, yl, hy⟩ : ∃ yh yl, lw Y = #[.int .u64 yh, .int .u64 yl] := ⟨_, _, rfl⟩
  have P1 : Hid (∀ w, Calls Try.prog 83 #[.int .u64 an, .int .u64 (bo + 1)] w fun e w' => e = .returned (.agg #[.int .u64 xh, .int .u64 xl]) ∧ Below w.heap.size w w') := fun w => by
    have hm := Int.mul_le_mul a1 (show bo + 1 ≤ 4611686018427387905 by omega) (by omega) (by omega)
    have := rtimes_calls an (bo + 1) w a0 (by omega) (by omega) (by omega) (by omega)
    rwa [← hX, hx] at this
  have P2 : Hid (∀ w, Calls Try.prog 83 #[.int .u64 bn, .int .u64 (ao + 1)] w fun e w' => e = .returned (.agg #[.int .u64 yh, .int .u64 yl]) ∧ Below w.heap.size w w') := fun w => by
    have hm := Int.mul_le_mul b1 (show ao + 1 ≤ 4611686018427387905 by omega) (by omega) (by omega)
    have := rtimes_calls bn (ao + 1) w b0 (by omega) (by omega) (by omega) (by omega)
    rwa [← hY, hy] at this
  have u1 : IntKind.u64.wrap an = an := by rw [wrapu]; omega
  have u2 : IntKind.u64.wrap bn = bn := by rw [wrapu]; omega
  have u3 : IntKind.u64.wrap (ao + 1) = ao + 1 := by rw [wrapu]; omega
  have u4 : IntKind.u64.wrap (bo + 1) = bo + 1 := by rw [wrapu]; omega
  have u5 : IntKind.i64.wrap (ao + 1) = ao + 1 := IntWalk.i64_in _ (by omega)
  have u6 : IntKind.i64.wrap (bo + 1) = bo + 1 := IntWalk.i64_in _ (by omega)
  have u7 : wrap64 (ao + 1) = ao + 1 := by unfold wrap64; omega
  have u8 : wrap64 (bo + 1) = bo + 1 := by unfold wrap64; omega
  replace hX := Lib.hid hX
  replace hY := Lib.hid hY
  replace hx := Lib.hid hx
  replace hy := Lib.hid hy
  go_enter Try.func62, Try.ntmps62
  go_wp2_with fail
  refine name_w (fun w' => (w'.drew.heap[w.heap.size]? = some (.cells #[.string ak, .int .i64 an, .int .i64 ao] 35 (0, 0)) ∧ w'.drew.heap[w.heap.size + 1]? = some (.cells #[.string bk, .int .i64 bn, .int .i64 bo] 35 (0, 0))) ∧ Below w.heap.size w w'.drew) ⟨⟨blk_old (blk_new w _) _, blk_new2 _ _ _⟩, (((Below.refl _ w).alloc (Nat.le_refl _) _).alloc (by simp) _).drew⟩ ?_
  rintro w0 ⟨⟨hB1, hB2⟩, HB⟩
  replace hB1 := Lib.hid hB1
  replace hB2 := Lib.hid hB2
  replace HB := Lib.hid HB
  refine start_ (n := 20) (S := fun w' => w'.cell? ⟨w.heap.size, 0, none⟩ = some (.string ak) ∧ w'.cell? ⟨w.heap.size, 1, none⟩ = some (.int .i64 an) ∧ w'.cell? ⟨w.heap.size, 2, none⟩ = some (.int .i64 ao) ∧ w'.cell? ⟨w.heap.size + 1, 0, none⟩ = some (.string bk) ∧ w'.cell? ⟨w.heap.size + 1, 1, none⟩ = some (.int .i64 bn) ∧ w'.cell? ⟨w.heap.size + 1, 2, none⟩ = some (.int .i64 bo)) (ds := [18, 19]) #[false, false, false, false, false, false, false, false, false, false, false, false, false, false, false, false, false, false, false, false] (by kernel_rfl) rfl rfl ⟨(blk_cell hB1.out 0), (blk_cell hB1.out 1), (blk_cell hB1.out 2), (blk_cell hB2.out 0), (blk_cell hB2.out 1), (blk_cell hB2.out 2)⟩ (fun hHeld => ?_)
  refine pure_ (i := 0) (N := some 7) (v := ?_) (a' := ?_) #[true, false, false, false, false, false, false, false, false, false, false, false, false, false, false, false, false, false, false, false] rfl rfl (by kernel_rfl) (fun _ _ _ h => h) (Or.inl ⟨by rfl, ?_⟩) ?_ ?_
  rotate_left
  · intro w'
    go_simp
    with_reducible rfl
  rotate_left
  · simp only [Act.put, List.setIfInBounds_toArray, List.set_cons_zero, List.set_cons_succ, i64_w, i32_w]
    rfl
  refine pure_ (i := 3) (N := some 10) (v := ?_) (a' := ?_) #[true, false, false, true, false, false, false, false, false, false, false, false, false, false, false, false, false, false, false, false] rfl rfl (by kernel_rfl) (fun _ _ _ h => h) (Or.inl ⟨by rfl, ?_⟩) ?_ ?_
  rotate_left
  · intro w'
    go_simp
    with_reducible rfl
  rotate_left
  · simp only [Act.put, List.setIfInBounds_toArray, List.set_cons_zero, List.set_cons_succ, i64_w, i32_w]
    rfl
  refine pure_ (i := 8) (N := some 15) (v := ?_) (a' := ?_) #[true, false, false, true, false, false, false, false, true, false, false, false, false, false, false, false, false, false, false, false] rfl rfl (by kernel_rfl) (fun _ _ _ h => h) (Or.inl ⟨by rfl, ?_⟩) ?_ ?_
  rotate_left
  · intro w'
    go_simp
    with_reducible rfl
  rotate_left
  · simp only [Act.put, List.setIfInBounds_toArray, List.set_cons_zero, List.set_cons_succ, i64_w, i32_w]
    rfl
  refine pure_ (i := 11) (N := some 18) (v := ?_) (a' := ?_) #[true, false, false, true, false, false, false, false, true, false, false, true, false, false, false, false, false, false, false, false] rfl rfl (by kernel_rfl) (fun _ _ _ h => h) (Or.inl ⟨by rfl, ?_⟩) ?_ ?_
  rotate_left
  · intro w'
    go_simp
    with_reducible rfl
  rotate_left
  · simp only [Act.put, List.setIfInBounds_toArray, List.set_cons_zero, List.set_cons_succ, i64_w, i32_w]
    rfl
  refine take_ (i := 1) (N := some 8) (v := ?_) (a' := ?_) #[true, true, false, true, false, false, false, false, true, false, false, true, false, false, false, false, false, false, false, false] rfl rfl (by kernel_rfl) (fun _ _ _ h => h) (Or.inl ⟨by rfl, ?_⟩) hHeld ?_ ?_
  rotate_left
  · rintro w' ⟨s0, s1, s2, s3, s4, s5⟩
    go_simp
    with_reducible rfl
  rotate_left
  · simp only [Act.put, List.setIfInBounds_toArray, List.set_cons_zero, List.set_cons_succ, i64_w, i32_w]
    rfl
  refine pure_ (i := 2) (N := some 9) (v := ?_) (a' := ?_) #[true, true, true, true, false, false, false, false, true, false, false, true, false, false, false, false, false, false, false, false] rfl rfl (by kernel_rfl) (fun _ _ _ h => h) (Or.inl ⟨by rfl, ?_⟩) ?_ ?_
  rotate_left
  · intro w'
    go_simp
    with_reducible rfl
  rotate_left
  · simp only [Act.put, List.setIfInBounds_toArray, List.set_cons_zero, List.set_cons_succ, i64_w, i32_w]
    rfl
  refine take_ (i := 4) (N := some 11) (v := ?_) (a' := ?_) #[true, true, true, true, true, false, false, false, true, false, false, true, false, false, false, false, false, false, false, false] rfl rfl (by kernel_rfl) (fun _ _ _ h => h) (Or.inl ⟨by rfl, ?_⟩) hHeld ?_ ?_
  rotate_left
  · rintro w' ⟨s0, s1, s2, s3, s4, s5⟩
    go_simp
    with_reducible rfl
  rotate_left
  · simp only [Act.put, List.setIfInBounds_toArray, List.set_cons_zero, List.set_cons_succ, i64_w, i32_w]
    rfl
  refine pure_ (i := 5) (N := some 12) (v := ?_) (a' := ?_) #[true, true, true, true, true, true, false, false, true, false, false, true, false, false, false, false, false, false, false, false] rfl rfl (by kernel_rfl) (fun _ _ _ h => h) (Or.inl ⟨by rfl, ?_⟩) ?_ ?_
  rotate_left
  · intro w'
    go_simp
    with_reducible rfl
  rotate_left
  · simp only [Act.put, List.setIfInBounds_toArray, List.set_cons_zero, List.set_cons_succ, i64_w, i32_w]
    rfl
  refine pure_ (i := 6) (N := some 13) (v := ?_) (a' := ?_) #[true, true, true, true, true, true, true, false, true, false, false, true, false, false, false, false, false, false, false, false] rfl rfl (by kernel_rfl) (fun _ _ _ h => h) (Or.inl ⟨by rfl, ?_⟩) ?_ ?_
  rotate_left
  · intro w'
    go_simp
    with_reducible rfl
  rotate_left
  · simp only [Act.put, List.setIfInBounds_toArray, List.set_cons_zero, List.set_cons_succ, i64_w, i32_w]
    rfl
  refine take_ (i := 9) (N := some 16) (v := ?_) (a' := ?_) #[true, true, true, true, true, true, true, false, true, true, false, true, false, false, false, false, false, false, false, false] rfl rfl (by kernel_rfl) (fun _ _ _ h => h) (Or.inl ⟨by rfl, ?_⟩) hHeld ?_ ?_
  rotate_left
  · rintro w' ⟨s0, s1, s2, s3, s4, s5⟩
    go_simp
    with_reducible rfl
  rotate_left
  · simp only [Act.put, List.setIfInBounds_toArray, List.set_cons_zero, List.set_cons_succ, i64_w, i32_w]
    rfl
  refine pure_ (i := 10) (N := some 17) (v := ?_) (a' := ?_) #[true, true, true, true, true, true, true, false, true, true, true, true, false, false, false, false, false, false, false, false] rfl rfl (by kernel_rfl) (fun _ _ _ h => h) (Or.inl ⟨by rfl, ?_⟩) ?_ ?_
  rotate_left
  · intro w'
    go_simp
    with_reducible rfl
  rotate_left
  · simp only [Act.put, List.setIfInBounds_toArray, List.set_cons_zero, List.set_cons_succ, i64_w, i32_w]
    rfl
  refine take_ (i := 12) (N := some 19) (v := ?_) (a' := ?_) #[true, true, true, true, true, true, true, false, true, true, true, true, true, false, false, false, false, false, false, false] rfl rfl (by kernel_rfl) (fun _ _ _ h => h) (Or.inl ⟨by rfl, ?_⟩) hHeld ?_ ?_
  rotate_left
  · rintro w' ⟨s0, s1, s2, s3, s4, s5⟩
    go_simp
    with_reducible rfl
  rotate_left
  · simp only [Act.put, List.setIfInBounds_toArray, List.set_cons_zero, List.set_cons_succ, i64_w, i32_w]
    rfl
  refine pure_ (i := 13) (N := some 20) (v := ?_) (a' := ?_) #[true, true, true, true, true, true, true, false, true, true, true, true, true, true, false, false, false, false, false, false] rfl rfl (by kernel_rfl) (fun _ _ _ h => h) (Or.inl ⟨by rfl, ?_⟩) ?_ ?_
  rotate_left
  · intro w'
    go_simp
    with_reducible rfl
  rotate_left
  · simp only [Act.put, List.setIfInBounds_toArray, List.set_cons_zero, List.set_cons_succ, i64_w, i32_w]
    rfl
  refine pure_ (i := 14) (N := some 21) (v := ?_) (a' := ?_) #[true, true, true, true, true, true, true, false, true, true, true, true, true, true, true, false, false, false, false, false] rfl rfl (by kernel_rfl) (fun _ _ _ h => h) (Or.inl ⟨by rfl, ?_⟩) ?_ ?_
  rotate_left
  · intro w'
    go_simp
    with_reducible rfl
  rotate_left
  · simp only [Act.put, List.setIfInBounds_toArray, List.set_cons_zero, List.set_cons_succ, i64_w, i32_w]
    rfl
  refine join_ (σ := Nat × Nat) 2 #[true, true, true, true, true, true, true, true, true, true, true, true, true, true, true, true, true, true, false, false] (fun s => [(14, .agg #[.int .u64 xh, .int .u64 xl]), (22, .agg #[.int .u64 yh, .int .u64 yl]), (5, .pointer (some ⟨s.1, 0, none⟩)), (6, .pointer (some ⟨s.2, 0, none⟩))]) (fun s w' => w'.heap[w.heap.size]? = some (.cells #[.string ak, .int .i64 an, .int .i64 ao] 35 (0, 0)) ∧ w'.heap[w.heap.size + 1]? = some (.cells #[.string bk, .int .i64 bn, .int .i64 bo] 35 (0, 0)) ∧ w'.heap[s.1]? = some (.cells #[.int .u64 0, .int .u64 0] 130 (0, 0)) ∧ w'.heap[s.2]? = some (.cells #[.int .u64 0, .int .u64 0] 130 (0, 0)) ∧ s.1 ≠ s.2 ∧ w.heap.size + 1 < s.1 ∧ w.heap.size + 1 < s.2 ∧ Below w.heap.size w w') ?_ ?_
  rotate_left
  · intro hCont
    refine three_ (i := 7) (j := 16) (k := 17) (Ni := some 14) (Nj := some 5) (Nk := some 6) #[true, true, true, true, true, true, true, true, true, true, true, true, true, true, true, false, false, false, false, false] #[true, true, true, true, true, true, true, false, true, true, true, true, true, true, true, false, true, false, false, false] #[true, true, true, true, true, true, true, false, true, true, true, true, true, true, true, false, false, true, false, false] rfl rfl rfl rfl rfl rfl (by kernel_rfl) (by decide) (by decide) (by decide) (fun K hK => ?_) (fun K hK => ?_) (fun K hK => ?_)
    · skip
      refine goes_ Try.func83 (by kernel_rfl) rfl #[.int .u64 an, .int .u64 (bo + 1)] (by rfl) rfl rfl (by (try simp only [List.map_toArray, List.map_cons, List.map_nil]); first | done | rfl) ?_
      with_reducible refine (P1.out _).mono ?_
      rintro e w3 ⟨rfl, hb⟩
      refine ⟨_, rfl, ?_⟩
      replace hB1 := Lib.hid (blk_below hB1.out hb (blk_lt hB1.out))
      replace hB2 := Lib.hid (blk_below hB2.out hb (blk_lt hB2.out))
      replace HB := Lib.hid (HB.out.trans (hb.mono HB.out.size))
      clear hb
      refine hK.out _ _ ⟨(blk_cell hB1.out 0), (blk_cell hB1.out 1), (blk_cell hB1.out 2), (blk_cell hB2.out 0), (blk_cell hB2.out 1), (blk_cell hB2.out 2)⟩ (fun hHeld => ?_)
      clear hK K
      refine norm_ (a' := ?_) ?_ ?_
      rotate_left
      · show Act.put _ (some 14) _ = _
        simp only [Act.put, List.setIfInBounds_toArray, List.set_cons_zero, List.set_cons_succ, i64_w, i32_w]
        rfl
      refine three_ (i := 15) (j := 16) (k := 17) (Ni := some 22) (Nj := some 5) (Nk := some 6) #[true, true, true, true, true, true, true, true, true, true, true, true, true, true, true, true, false, false, false, false] #[true, true, true, true, true, true, true, true, true, true, true, true, true, true, true, false, true, false, false, false] #[true, true, true, true, true, true, true, true, true, true, true, true, true, true, true, false, false, true, false, false] rfl rfl rfl rfl rfl rfl (by kernel_rfl) (by decide) (by decide) (by decide) (fun K hK => ?_) (fun K hK => ?_) (fun K hK => ?_)
      · skip
        refine goes_ Try.func83 (by kernel_rfl) rfl #[.int .u64 bn, .int .u64 (ao + 1)] (by rfl) rfl rfl (by (try simp only [List.map_toArray, List.map_cons, List.map_nil]); first | done | rfl) ?_
        with_reducible refine (P2.out _).mono ?_
        rintro e w4 ⟨rfl, hb⟩
        refine ⟨_, rfl, ?_⟩
        replace hB1 := Lib.hid (blk_below hB1.out hb (blk_lt hB1.out))
        replace hB2 := Lib.hid (blk_below hB2.out hb (blk_lt hB2.out))
        replace HB := Lib.hid (HB.out.trans (hb.mono HB.out.size))
        clear hb
        refine hK.out _ _ ⟨(blk_cell hB1.out 0), (blk_cell hB1.out 1), (blk_cell hB1.out 2), (blk_cell hB2.out 0), (blk_cell hB2.out 1), (blk_cell hB2.out 2)⟩ (fun hHeld => ?_)
        clear hK K
        refine norm_ (a' := ?_) ?_ ?_
        rotate_left
        · show Act.put _ (some 22) _ = _
          simp only [Act.put, List.setIfInBounds_toArray, List.set_cons_zero, List.set_cons_succ, i64_w, i32_w]
          rfl
        refine two_ (i := 16) (j := 17) (Ni := some 5) (Nj := some 6) #[true, true, true, true, true, true, true, true, true, true, true, true, true, true, true, true, true, false, false, false] #[true, true, true, true, true, true, true, true, true, true, true, true, true, true, true, true, false, true, false, false] rfl rfl rfl rfl (by kernel_rfl) (by decide) (by decide) (fun K hK => ?_) (fun K hK => ?_)
        · skip
          refine value_ (w1 := ?_) (v := ?_) (by rfl) rfl ?_ ?_
          rotate_left 2
          · go_simp
            constructor
            · rfl
            · rfl
          first | refine alloc_name (fun g5 w5 hk hb hg => ?_) | refine alloc_name_d (fun g5 w5 hk hb hg => ?_)
          have G5 : Hid (w.heap.size + 1 < g5) := Nat.lt_of_lt_of_le (blk_lt hB2.out) hg
          replace hB1 := Lib.hid (blk_below hB1.out hb (blk_lt hB1.out))
          replace hB2 := Lib.hid (blk_below hB2.out hb (blk_lt hB2.out))
          replace HB := Lib.hid (HB.out.trans (hb.mono HB.out.size))
          clear hb
          have A5 := Lib.hid hk
          clear hk hg
          refine hK.out _ _ ⟨(blk_cell hB1.out 0), (blk_cell hB1.out 1), (blk_cell hB1.out 2), (blk_cell hB2.out 0), (blk_cell hB2.out 1), (blk_cell hB2.out 2)⟩ (fun hHeld => ?_)
          clear hK K
          refine norm_ (a' := ?_) ?_ ?_
          rotate_left
          · show Act.put _ (some 5) _ = _
            simp only [Act.put, List.setIfInBounds_toArray, List.set_cons_zero, List.set_cons_succ, i64_w, i32_w]
            rfl
          refine one_ (i := 17) (N := some 6) #[true, true, true, true, true, true, true, true, true, true, true, true, true, true, true, true, true, true, false, false] rfl rfl (by kernel_rfl) (by decide) (fun K hK => ?_)
          refine value_ (w1 := ?_) (v := ?_) (by rfl) rfl ?_ ?_
          rotate_left 2
          · go_simp
            constructor
            · rfl
            · rfl
          first | refine alloc_name (fun g6 w6 hk hb hg => ?_) | refine alloc_name_d (fun g6 w6 hk hb hg => ?_)
          have G6 : Hid (w.heap.size + 1 < g6) := Nat.lt_of_lt_of_le (blk_lt hB2.out) hg
          have NE : Hid (g5 ≠ g6) := Nat.ne_of_lt (Nat.lt_of_lt_of_le (blk_lt A5.out) hg)
          replace A5 := Lib.hid (blk_below A5.out hb (blk_lt A5.out))
          replace hB1 := Lib.hid (blk_below hB1.out hb (blk_lt hB1.out))
          replace hB2 := Lib.hid (blk_below hB2.out hb (blk_lt hB2.out))
          replace HB := Lib.hid (HB.out.trans (hb.mono HB.out.size))
          clear hb
          have A6 := Lib.hid hk
          clear hk hg
          refine hK.out _ _ ⟨(blk_cell hB1.out 0), (blk_cell hB1.out 1), (blk_cell hB1.out 2), (blk_cell hB2.out 0), (blk_cell hB2.out 1), (blk_cell hB2.out 2)⟩ (fun hHeld => ?_)
          clear hK K
          refine norm_ (a' := ?_) ?_ ?_
          rotate_left
          · show Act.put _ (some 6) _ = _
            simp only [Act.put, List.setIfInBounds_toArray, List.set_cons_zero, List.set_cons_succ, i64_w, i32_w]
            rfl
          exact norm_ (by simp only [putAll, Act.put, List.setIfInBounds_toArray, List.set_cons_zero, List.set_cons_succ]) (hCont (g5, g6) _ ⟨hB1.out, hB2.out, A5.out, A6.out, NE.out, G5.out, G6.out, HB.out⟩)
        · skip
          refine value_ (w1 := ?_) (v := ?_) (by rfl) rfl ?_ ?_
          rotate_left 2
          · go_simp
            constructor
            · rfl
            · rfl
          first | refine alloc_name (fun g6 w6 hk hb hg => ?_) | refine alloc_name_d (fun g6 w6 hk hb hg => ?_)
          have G6 : Hid (w.heap.size + 1 < g6) := Nat.lt_of_lt_of_le (blk_lt hB2.out) hg
          replace hB1 := Lib.hid (blk_below hB1.out hb (blk_lt hB1.out))
          replace hB2 := Lib.hid (blk_below hB2.out hb (blk_lt hB2.out))
          replace HB := Lib.hid (HB.out.trans (hb.mono HB.out.size))
          clear hb
          have A6 := Lib.hid hk
          clear hk hg
          refine hK.out _ _ ⟨(blk_cell hB1.out 0), (blk_cell hB1.out 1), (blk_cell hB1.out 2), (blk_cell hB2.out 0), (blk_cell hB2.out 1), (blk_cell hB2.out 2)⟩ (fun hHeld => ?_)
          clear hK K
          refine norm_ (a' := ?_) ?_ ?_
          rotate_left
          · show Act.put _ (some 6) _ = _
            simp only [Act.put, List.setIfInBounds_toArray, List.set_cons_zero, List.set_cons_succ, i64_w, i32_w]
            rfl
          refine one_ (i := 16) (N := some 5) #[true, true, true, true, true, true, true, true, true, true, true, true, true, true, true, true, true, true, false, false] rfl rfl (by kernel_rfl) (by decide) (fun K hK => ?_)
          refine value_ (w1 := ?_) (v := ?_) (by rfl) rfl ?_ ?_
          rotate_left 2
          · go_simp
            constructor
            · rfl
            · rfl
          first | refine alloc_name (fun g5 w5 hk hb hg => ?_) | refine alloc_name_d (fun g5 w5 hk hb hg => ?_)
          have G5 : Hid (w.heap.size + 1 < g5) := Nat.lt_of_lt_of_le (blk_lt hB2.out) hg
          have NE : Hid (g5 ≠ g6) := Nat.ne_of_gt (Nat.lt_of_lt_of_le (blk_lt A6.out) hg)
          replace A6 := Lib.hid (blk_below A6.out hb (blk_lt A6.out))
          replace hB1 := Lib.hid (blk_below hB1.out hb (blk_lt hB1.out))
          replace hB2 := Lib.hid (blk_below hB2.out hb (blk_lt hB2.out))
          replace HB := Lib.hid (HB.out.trans (hb.mono HB.out.size))
          clear hb
          have A5 := Lib.hid hk
          clear hk hg
          refine hK.out _ _ ⟨(blk_cell hB1.out 0), (blk_cell hB1.out 1), (blk_cell hB1.out 2), (blk_cell hB2.out 0), (blk_cell hB2.out 1), (blk_cell hB2.out 2)⟩ (fun hHeld => ?_)
          clear hK K
          refine norm_ (a' := ?_) ?_ ?_
          rotate_left
          · show Act.put _ (some 5) _ = _
            simp only [Act.put, List.setIfInBounds_toArray, List.set_cons_zero, List.set_cons_succ, i64_w, i32_w]
            rfl
          exact norm_ (by simp only [putAll, Act.put, List.setIfInBounds_toArray, List.set_cons_zero, List.set_cons_succ]) (hCont (g5, g6) _ ⟨hB1.out, hB2.out, A5.out, A6.out, NE.out, G5.out, G6.out, HB.out⟩)
      · skip
        refine value_ (w1 := ?_) (v := ?_) (by rfl) rfl ?_ ?_
        rotate_left 2
        · go_simp
          constructor
          · rfl
          · rfl
        first | refine alloc_name (fun g5 w5 hk hb hg => ?_) | refine alloc_name_d (fun g5 w5 hk hb hg => ?_)
        have G5 : Hid (w.heap.size + 1 < g5) := Nat.lt_of_lt_of_le (blk_lt hB2.out) hg
        replace hB1 := Lib.hid (blk_below hB1.out hb (blk_lt hB1.out))
        replace hB2 := Lib.hid (blk_below hB2.out hb (blk_lt hB2.out))
        replace HB := Lib.hid (HB.out.trans (hb.mono HB.out.size))
        clear hb
        have A5 := Lib.hid hk
        clear hk hg
        refine hK.out _ _ ⟨(blk_cell hB1.out 0), (blk_cell hB1.out 1), (blk_cell hB1.out 2), (blk_cell hB2.out 0), (blk_cell hB2.out 1), (blk_cell hB2.out 2)⟩ (fun hHeld => ?_)
        clear hK K
        refine norm_ (a' := ?_) ?_ ?_
        rotate_left
        · show Act.put _ (some 5) _ = _
          simp only [Act.put, List.setIfInBounds_toArray, List.set_cons_zero, List.set_cons_succ, i64_w, i32_w]
          rfl
        refine two_ (i := 15) (j := 17) (Ni := some 22) (Nj := some 6) #[true, true, true, true, true, true, true, true, true, true, true, true, true, true, true, true, true, false, false, false] #[true, true, true, true, true, true, true, true, true, true, true, true, true, true, true, false, true, true, false, false] rfl rfl rfl rfl (by kernel_rfl) (by decide) (by decide) (fun K hK => ?_) (fun K hK => ?_)
        · skip
          refine goes_ Try.func83 (by kernel_rfl) rfl #[.int .u64 bn, .int .u64 (ao + 1)] (by rfl) rfl rfl (by (try simp only [List.map_toArray, List.map_cons, List.map_nil]); first | done | rfl) ?_
          with_reducible refine (P2.out _).mono ?_
          rintro e w4 ⟨rfl, hb⟩
          refine ⟨_, rfl, ?_⟩
          replace A5 := Lib.hid (blk_below A5.out hb (blk_lt A5.out))
          replace hB1 := Lib.hid (blk_below hB1.out hb (blk_lt hB1.out))
          replace hB2 := Lib.hid (blk_below hB2.out hb (blk_lt hB2.out))
          replace HB := Lib.hid (HB.out.trans (hb.mono HB.out.size))
          clear hb
          refine hK.out _ _ ⟨(blk_cell hB1.out 0), (blk_cell hB1.out 1), (blk_cell hB1.out 2), (blk_cell hB2.out 0), (blk_cell hB2.out 1), (blk_cell hB2.out 2)⟩ (fun hHeld => ?_)
          clear hK K
          refine norm_ (a' := ?_) ?_ ?_
          rotate_left
          · show Act.put _ (some 22) _ = _
            simp only [Act.put, List.setIfInBounds_toArray, List.set_cons_zero, List.set_cons_succ, i64_w, i32_w]
            rfl
          refine one_ (i := 17) (N := some 6) #[true, true, true, true, true, true, true, true, true, true, true, true, true, true, true, true, true, true, false, false] rfl rfl (by kernel_rfl) (by decide) (fun K hK => ?_)
          refine value_ (w1 := ?_) (v := ?_) (by rfl) rfl ?_ ?_
          rotate_left 2
          · go_simp
            constructor
            · rfl
            · rfl
          first | refine alloc_name (fun g6 w6 hk hb hg => ?_) | refine alloc_name_d (fun g6 w6 hk hb hg => ?_)
          have G6 : Hid (w.heap.size + 1 < g6) := Nat.lt_of_lt_of_le (blk_lt hB2.out) hg
          have NE : Hid (g5 ≠ g6) := Nat.ne_of_lt (Nat.lt_of_lt_of_le (blk_lt A5.out) hg)
          replace A5 := Lib.hid (blk_below A5.out hb (blk_lt A5.out))
          replace hB1 := Lib.hid (blk_below hB1.out hb (blk_lt hB1.out))
          replace hB2 := Lib.hid (blk_below hB2.out hb (blk_lt hB2.out))
          replace HB := Lib.hid (HB.out.trans (hb.mono HB.out.size))
          clear hb
          have A6 := Lib.hid hk
          clear hk hg
          refine hK.out _ _ ⟨(blk_cell hB1.out 0), (blk_cell hB1.out 1), (blk_cell hB1.out 2), (blk_cell hB2.out 0), (blk_cell hB2.out 1), (blk_cell hB2.out 2)⟩ (fun hHeld => ?_)
          clear hK K
          refine norm_ (a' := ?_) ?_ ?_
          rotate_left
          · show Act.put _ (some 6) _ = _
            simp only [Act.put, List.setIfInBounds_toArray, List.set_cons_zero, List.set_cons_succ, i64_w, i32_w]
            rfl
          exact norm_ (by simp only [putAll, Act.put, List.setIfInBounds_toArray, List.set_cons_zero, List.set_cons_succ]) (hCont (g5, g6) _ ⟨hB1.out, hB2.out, A5.out, A6.out, NE.out, G5.out, G6.out, HB.out⟩)
        · skip
          refine value_ (w1 := ?_) (v := ?_) (by rfl) rfl ?_ ?_
          rotate_left 2
          · go_simp
            constructor
            · rfl
            · rfl
          first | refine alloc_name (fun g6 w6 hk hb hg => ?_) | refine alloc_name_d (fun g6 w6 hk hb hg => ?_)
          have G6 : Hid (w.heap.size + 1 < g6) := Nat.lt_of_lt_of_le (blk_lt hB2.out) hg
          have NE : Hid (g5 ≠ g6) := Nat.ne_of_lt (Nat.lt_of_lt_of_le (blk_lt A5.out) hg)
          replace A5 := Lib.hid (blk_below A5.out hb (blk_lt A5.out))
          replace hB1 := Lib.hid (blk_below hB1.out hb (blk_lt hB1.out))
          replace hB2 := Lib.hid (blk_below hB2.out hb (blk_lt hB2.out))
          replace HB := Lib.hid (HB.out.trans (hb.mono HB.out.size))
          clear hb
          have A6 := Lib.hid hk
          clear hk hg
          refine hK.out _ _ ⟨(blk_cell hB1.out 0), (blk_cell hB1.out 1), (blk_cell hB1.out 2), (blk_cell hB2.out 0), (blk_cell hB2.out 1), (blk_cell hB2.out 2)⟩ (fun hHeld => ?_)
          clear hK K
          refine norm_ (a' := ?_) ?_ ?_
          rotate_left
          · show Act.put _ (some 6) _ = _
            simp only [Act.put, List.setIfInBounds_toArray, List.set_cons_zero, List.set_cons_succ, i64_w, i32_w]
            rfl
          refine one_ (i := 15) (N := some 22) #[true, true, true, true, true, true, true, true, true, true, true, true, true, true, true, true, true, true, false, false] rfl rfl (by kernel_rfl) (by decide) (fun K hK => ?_)
          refine goes_ Try.func83 (by kernel_rfl) rfl #[.int .u64 bn, .int .u64 (ao + 1)] (by rfl) rfl rfl (by (try simp only [List.map_toArray, List.map_cons, List.map_nil]); first | done | rfl) ?_
          with_reducible refine (P2.out _).mono ?_
          rintro e w4 ⟨rfl, hb⟩
          refine ⟨_, rfl, ?_⟩
          replace A5 := Lib.hid (blk_below A5.out hb (blk_lt A5.out))
          replace A6 := Lib.hid (blk_below A6.out hb (blk_lt A6.out))
          replace hB1 := Lib.hid (blk_below hB1.out hb (blk_lt hB1.out))
          replace hB2 := Lib.hid (blk_below hB2.out hb (blk_lt hB2.out))
          replace HB := Lib.hid (HB.out.trans (hb.mono HB.out.size))
          clear hb
          refine hK.out _ _ ⟨(blk_cell hB1.out 0), (blk_cell hB1.out 1), (blk_cell hB1.out 2), (blk_cell hB2.out 0), (blk_cell hB2.out 1), (blk_cell hB2.out 2)⟩ (fun hHeld => ?_)
          clear hK K
          refine norm_ (a' := ?_) ?_ ?_
          rotate_left
          · show Act.put _ (some 22) _ = _
            simp only [Act.put, List.setIfInBounds_toArray, List.set_cons_zero, List.set_cons_succ, i64_w, i32_w]
            rfl
          exact norm_ (by simp only [putAll, Act.put, List.setIfInBounds_toArray, List.set_cons_zero, List.set_cons_succ]) (hCont (g5, g6) _ ⟨hB1.out, hB2.out, A5.out, A6.out, NE.out, G5.out, G6.out, HB.out⟩)
      · skip
        refine value_ (w1 := ?_) (v := ?_) (by rfl) rfl ?_ ?_
        rotate_left 2
        · go_simp
          constructor
          · rfl
          · rfl
        first | refine alloc_name (fun g6 w6 hk hb hg => ?_) | refine alloc_name_d (fun g6 w6 hk hb hg => ?_)
        have G6 : Hid (w.heap.size + 1 < g6) := Nat.lt_of_lt_of_le (blk_lt hB2.out) hg
        replace hB1 := Lib.hid (blk_below hB1.out hb (blk_lt hB1.out))
        replace hB2 := Lib.hid (blk_below hB2.out hb (blk_lt hB2.out))
        replace HB := Lib.hid (HB.out.trans (hb.mono HB.out.size))
        clear hb
        have A6 := Lib.hid hk
        clear hk hg
        refine hK.out _ _ ⟨(blk_cell hB1.out 0), (blk_cell hB1.out 1), (blk_cell hB1.out 2), (blk_cell hB2.out 0), (blk_cell hB2.out 1), (blk_cell hB2.out 2)⟩ (fun hHeld => ?_)
        clear hK K
        refine norm_ (a' := ?_) ?_ ?_
        rotate_left
        · show Act.put _ (some 6) _ = _
          simp only [Act.put, List.setIfInBounds_toArray, List.set_cons_zero, List.set_cons_succ, i64_w, i32_w]
          rfl
        refine two_ (i := 15) (j := 16) (Ni := some 22) (Nj := some 5) #[true, true, true, true, true, true, true, true, true, true, true, true, true, true, true, true, false, true, false, false] #[true, true, true, true, true, true, true, true, true, true, true, true, true, true, true, false, true, true, false, false] rfl rfl rfl rfl (by kernel_rfl) (by decide) (by decide) (fun K hK => ?_) (fun K hK => ?_)
        · skip
          refine goes_ Try.func83 (by kernel_rfl) rfl #[.int .u64 bn, .int .u64 (ao + 1)] (by rfl) rfl rfl (by (try simp only [List.map_toArray, List.map_cons, List.map_nil]); first | done | rfl) ?_
          with_reducible refine (P2.out _).mono ?_
          rintro e w4 ⟨rfl, hb⟩
          refine ⟨_, rfl, ?_⟩
          replace A6 := Lib.hid (blk_below A6.out hb (blk_lt A6.out))
          replace hB1 := Lib.hid (blk_below hB1.out hb (blk_lt hB1.out))
          replace hB2 := Lib.hid (blk_below hB2.out hb (blk_lt hB2.out))
          replace HB := Lib.hid (HB.out.trans (hb.mono HB.out.size))
          clear hb
          refine hK.out _ _ ⟨(blk_cell hB1.out 0), (blk_cell hB1.out 1), (blk_cell hB1.out 2), (blk_cell hB2.out 0), (blk_cell hB2.out 1), (blk_cell hB2.out 2)⟩ (fun hHeld => ?_)
          clear hK K
          refine norm_ (a' := ?_) ?_ ?_
          rotate_left
          · show Act.put _ (some 22) _ = _
            simp only [Act.put, List.setIfInBounds_toArray, List.set_cons_zero, List.set_cons_succ, i64_w, i32_w]
            rfl
          refine one_ (i := 16) (N := some 5) #[true, true, true, true, true, true, true, true, true, true, true, true, true, true, true, true, true, true, false, false] rfl rfl (by kernel_rfl) (by decide) (fun K hK => ?_)
          refine value_ (w1 := ?_) (v := ?_) (by rfl) rfl ?_ ?_
          rotate_left 2
          · go_simp
            constructor
            · rfl
            · rfl
          first | refine alloc_name (fun g5 w5 hk hb hg => ?_) | refine alloc_name_d (fun g5 w5 hk hb hg => ?_)
          have G5 : Hid (w.heap.size + 1 < g5) := Nat.lt_of_lt_of_le (blk_lt hB2.out) hg
          have NE : Hid (g5 ≠ g6) := Nat.ne_of_gt (Nat.lt_of_lt_of_le (blk_lt A6.out) hg)
          replace A6 := Lib.hid (blk_below A6.out hb (blk_lt A6.out))
          replace hB1 := Lib.hid (blk_below hB1.out hb (blk_lt hB1.out))
          replace hB2 := Lib.hid (blk_below hB2.out hb (blk_lt hB2.out))
          replace HB := Lib.hid (HB.out.trans (hb.mono HB.out.size))
          clear hb
          have A5 := Lib.hid hk
          clear hk hg
          refine hK.out _ _ ⟨(blk_cell hB1.out 0), (blk_cell hB1.out 1), (blk_cell hB1.out 2), (blk_cell hB2.out 0), (blk_cell hB2.out 1), (blk_cell hB2.out 2)⟩ (fun hHeld => ?_)
          clear hK K
          refine norm_ (a' := ?_) ?_ ?_
          rotate_left
          · show Act.put _ (some 5) _ = _
            simp only [Act.put, List.setIfInBounds_toArray, List.set_cons_zero, List.set_cons_succ, i64_w, i32_w]
            rfl
          exact norm_ (by simp only [putAll, Act.put, List.setIfInBounds_toArray, List.set_cons_zero, List.set_cons_succ]) (hCont (g5, g6) _ ⟨hB1.out, hB2.out, A5.out, A6.out, NE.out, G5.out, G6.out, HB.out⟩)
        · skip
          refine value_ (w1 := ?_) (v := ?_) (by rfl) rfl ?_ ?_
          rotate_left 2
          · go_simp
            constructor
            · rfl
            · rfl
          first | refine alloc_name (fun g5 w5 hk hb hg => ?_) | refine alloc_name_d (fun g5 w5 hk hb hg => ?_)
          have G5 : Hid (w.heap.size + 1 < g5) := Nat.lt_of_lt_of_le (blk_lt hB2.out) hg
          have NE : Hid (g5 ≠ g6) := Nat.ne_of_gt (Nat.lt_of_lt_of_le (blk_lt A6.out) hg)
          replace A6 := Lib.hid (blk_below A6.out hb (blk_lt A6.out))
          replace hB1 := Lib.hid (blk_below hB1.out hb (blk_lt hB1.out))
          replace hB2 := Lib.hid (blk_below hB2.out hb (blk_lt hB2.out))
          replace HB := Lib.hid (HB.out.trans (hb.mono HB.out.size))
          clear hb
          have A5 := Lib.hid hk
          clear hk hg
          refine hK.out _ _ ⟨(blk_cell hB1.out 0), (blk_cell hB1.out 1), (blk_cell hB1.out 2), (blk_cell hB2.out 0), (blk_cell hB2.out 1), (blk_cell hB2.out 2)⟩ (fun hHeld => ?_)
          clear hK K
          refine norm_ (a' := ?_) ?_ ?_
          rotate_left
          · show Act.put _ (some 5) _ = _
            simp only [Act.put, List.setIfInBounds_toArray, List.set_cons_zero, List.set_cons_succ, i64_w, i32_w]
            rfl
          refine one_ (i := 15) (N := some 22) #[true, true, true, true, true, true, true, true, true, true, true, true, true, true, true, true, true, true, false, false] rfl rfl (by kernel_rfl) (by decide) (fun K hK => ?_)
          refine goes_ Try.func83 (by kernel_rfl) rfl #[.int .u64 bn, .int .u64 (ao + 1)] (by rfl) rfl rfl (by (try simp only [List.map_toArray, List.map_cons, List.map_nil]); first | done | rfl) ?_
          with_reducible refine (P2.out _).mono ?_
          rintro e w4 ⟨rfl, hb⟩
          refine ⟨_, rfl, ?_⟩
          replace A5 := Lib.hid (blk_below A5.out hb (blk_lt A5.out))
          replace A6 := Lib.hid (blk_below A6.out hb (blk_lt A6.out))
          replace hB1 := Lib.hid (blk_below hB1.out hb (blk_lt hB1.out))
          replace hB2 := Lib.hid (blk_below hB2.out hb (blk_lt hB2.out))
          replace HB := Lib.hid (HB.out.trans (hb.mono HB.out.size))
          clear hb
          refine hK.out _ _ ⟨(blk_cell hB1.out 0), (blk_cell hB1.out 1), (blk_cell hB1.out 2), (blk_cell hB2.out 0), (blk_cell hB2.out 1), (blk_cell hB2.out 2)⟩ (fun hHeld => ?_)
          clear hK K
          refine norm_ (a' := ?_) ?_ ?_
          rotate_left
          · show Act.put _ (some 22) _ = _
            simp only [Act.put, List.setIfInBounds_toArray, List.set_cons_zero, List.set_cons_succ, i64_w, i32_w]
            rfl
          exact norm_ (by simp only [putAll, Act.put, List.setIfInBounds_toArray, List.set_cons_zero, List.set_cons_succ]) (hCont (g5, g6) _ ⟨hB1.out, hB2.out, A5.out, A6.out, NE.out, G5.out, G6.out, HB.out⟩)
    · skip
      refine value_ (w1 := ?_) (v := ?_) (by rfl) rfl ?_ ?_
      rotate_left 2
      · go_simp
        constructor
        · rfl
        · rfl
      first | refine alloc_name (fun g5 w5 hk hb hg => ?_) | refine alloc_name_d (fun g5 w5 hk hb hg => ?_)
      have G5 : Hid (w.heap.size + 1 < g5) := Nat.lt_of_lt_of_le (blk_lt hB2.out) hg
      replace hB1 := Lib.hid (blk_below hB1.out hb (blk_lt hB1.out))
      replace hB2 := Lib.hid (blk_below hB2.out hb (blk_lt hB2.out))
      replace HB := Lib.hid (HB.out.trans (hb.mono HB.out.size))
      clear hb
      have A5 := Lib.hid hk
      clear hk hg
      refine hK.out _ _ ⟨(blk_cell hB1.out 0), (blk_cell hB1.out 1), (blk_cell hB1.out 2), (blk_cell hB2.out 0), (blk_cell hB2.out 1), (blk_cell hB2.out 2)⟩ (fun hHeld => ?_)
      clear hK K
      refine norm_ (a' := ?_) ?_ ?_
      rotate_left
      · show Act.put _ (some 5) _ = _
        simp only [Act.put, List.setIfInBounds_toArray, List.set_cons_zero, List.set_cons_succ, i64_w, i32_w]
        rfl
      refine two_ (i := 7) (j := 17) (Ni := some 14) (Nj := some 6) #[true, true, true, true, true, true, true, true, true, true, true, true, true, true, true, false, true, false, false, false] #[true, true, true, true, true, true, true, false, true, true, true, true, true, true, true, false, true, true, false, false] rfl rfl rfl rfl (by kernel_rfl) (by decide) (by decide) (fun K hK => ?_) (fun K hK => ?_)
      · skip
        refine goes_ Try.func83 (by kernel_rfl) rfl #[.int .u64 an, .int .u64 (bo + 1)] (by rfl) rfl rfl (by (try simp only [List.map_toArray, List.map_cons, List.map_nil]); first | done | rfl) ?_
        with_reducible refine (P1.out _).mono ?_
        rintro e w3 ⟨rfl, hb⟩
        refine ⟨_, rfl, ?_⟩
        replace A5 := Lib.hid (blk_below A5.out hb (blk_lt A5.out))
        replace hB1 := Lib.hid (blk_below hB1.out hb (blk_lt hB1.out))
        replace hB2 := Lib.hid (blk_below hB2.out hb (blk_lt hB2.out))
        replace HB := Lib.hid (HB.out.trans (hb.mono HB.out.size))
        clear hb
        refine hK.out _ _ ⟨(blk_cell hB1.out 0), (blk_cell hB1.out 1), (blk_cell hB1.out 2), (blk_cell hB2.out 0), (blk_cell hB2.out 1), (blk_cell hB2.out 2)⟩ (fun hHeld => ?_)
        clear hK K
        refine norm_ (a' := ?_) ?_ ?_
        rotate_left
        · show Act.put _ (some 14) _ = _
          simp only [Act.put, List.setIfInBounds_toArray, List.set_cons_zero, List.set_cons_succ, i64_w, i32_w]
          rfl
        refine two_ (i := 15) (j := 17) (Ni := some 22) (Nj := some 6) #[true, true, true, true, true, true, true, true, true, true, true, true, true, true, true, true, true, false, false, false] #[true, true, true, true, true, true, true, true, true, true, true, true, true, true, true, false, true, true, false, false] rfl rfl rfl rfl (by kernel_rfl) (by decide) (by decide) (fun K hK => ?_) (fun K hK => ?_)
        · skip
          refine goes_ Try.func83 (by kernel_rfl) rfl #[.int .u64 bn, .int .u64 (ao + 1)] (by rfl) rfl rfl (by (try simp only [List.map_toArray, List.map_cons, List.map_nil]); first | done | rfl) ?_
          with_reducible refine (P2.out _).mono ?_
          rintro e w4 ⟨rfl, hb⟩
          refine ⟨_, rfl, ?_⟩
          replace A5 := Lib.hid (blk_below A5.out hb (blk_lt A5.out))
          replace hB1 := Lib.hid (blk_below hB1.out hb (blk_lt hB1.out))
          replace hB2 := Lib.hid (blk_below hB2.out hb (blk_lt hB2.out))
          replace HB := Lib.hid (HB.out.trans (hb.mono HB.out.size))
          clear hb
          refine hK.out _ _ ⟨(blk_cell hB1.out 0), (blk_cell hB1.out 1), (blk_cell hB1.out 2), (blk_cell hB2.out 0), (blk_cell hB2.out 1), (blk_cell hB2.out 2)⟩ (fun hHeld => ?_)
          clear hK K
          refine norm_ (a' := ?_) ?_ ?_
          rotate_left
          · show Act.put _ (some 22) _ = _
            simp only [Act.put, List.setIfInBounds_toArray, List.set_cons_zero, List.set_cons_succ, i64_w, i32_w]
            rfl
          refine one_ (i := 17) (N := some 6) #[true, true, true, true, true, true, true, true, true, true, true, true, true, true, true, true, true, true, false, false] rfl rfl (by kernel_rfl) (by decide) (fun K hK => ?_)
          refine value_ (w1 := ?_) (v := ?_) (by rfl) rfl ?_ ?_
          rotate_left 2
          · go_simp
            constructor
            · rfl
            · rfl
          first | refine alloc_name (fun g6 w6 hk hb hg => ?_) | refine alloc_name_d (fun g6 w6 hk hb hg => ?_)
          have G6 : Hid (w.heap.size + 1 < g6) := Nat.lt_of_lt_of_le (blk_lt hB2.out) hg
          have NE : Hid (g5 ≠ g6) := Nat.ne_of_lt (Nat.lt_of_lt_of_le (blk_lt A5.out) hg)
          replace A5 := Lib.hid (blk_below A5.out hb (blk_lt A5.out))
          replace hB1 := Lib.hid (blk_below hB1.out hb (blk_lt hB1.out))
          replace hB2 := Lib.hid (blk_below hB2.out hb (blk_lt hB2.out))
          replace HB := Lib.hid (HB.out.trans (hb.mono HB.out.size))
          clear hb
          have A6 := Lib.hid hk
          clear hk hg
          refine hK.out _ _ ⟨(blk_cell hB1.out 0), (blk_cell hB1.out 1), (blk_cell hB1.out 2), (blk_cell hB2.out 0), (blk_cell hB2.out 1), (blk_cell hB2.out 2)⟩ (fun hHeld => ?_)
          clear hK K
          refine norm_ (a' := ?_) ?_ ?_
          rotate_left
          · show Act.put _ (some 6) _ = _
            simp only [Act.put, List.setIfInBounds_toArray, List.set_cons_zero, List.set_cons_succ, i64_w, i32_w]
            rfl
          exact norm_ (by simp only [putAll, Act.put, List.setIfInBounds_toArray, List.set_cons_zero, List.set_cons_succ]) (hCont (g5, g6) _ ⟨hB1.out, hB2.out, A5.out, A6.out, NE.out, G5.out, G6.out, HB.out⟩)
        · skip
          refine value_ (w1 := ?_) (v := ?_) (by rfl) rfl ?_ ?_
          rotate_left 2
          · go_simp
            constructor
            · rfl
            · rfl
          first | refine alloc_name (fun g6 w6 hk hb hg => ?_) | refine alloc_name_d (fun g6 w6 hk hb hg => ?_)
          have G6 : Hid (w.heap.size + 1 < g6) := Nat.lt_of_lt_of_le (blk_lt hB2.out) hg
          have NE : Hid (g5 ≠ g6) := Nat.ne_of_lt (Nat.lt_of_lt_of_le (blk_lt A5.out) hg)
          replace A5 := Lib.hid (blk_below A5.out hb (blk_lt A5.out))
          replace hB1 := Lib.hid (blk_below hB1.out hb (blk_lt hB1.out))
          replace hB2 := Lib.hid (blk_below hB2.out hb (blk_lt hB2.out))
          replace HB := Lib.hid (HB.out.trans (hb.mono HB.out.size))
          clear hb
          have A6 := Lib.hid hk
          clear hk hg
          refine hK.out _ _ ⟨(blk_cell hB1.out 0), (blk_cell hB1.out 1), (blk_cell hB1.out 2), (blk_cell hB2.out 0), (blk_cell hB2.out 1), (blk_cell hB2.out 2)⟩ (fun hHeld => ?_)
          clear hK K
          refine norm_ (a' := ?_) ?_ ?_
          rotate_left
          · show Act.put _ (some 6) _ = _
            simp only [Act.put, List.setIfInBounds_toArray, List.set_cons_zero, List.set_cons_succ, i64_w, i32_w]
            rfl
          refine one_ (i := 15) (N := some 22) #[true, true, true, true, true, true, true, true, true, true, true, true, true, true, true, true, true, true, false, false] rfl rfl (by kernel_rfl) (by decide) (fun K hK => ?_)
          refine goes_ Try.func83 (by kernel_rfl) rfl #[.int .u64 bn, .int .u64 (ao + 1)] (by rfl) rfl rfl (by (try simp only [List.map_toArray, List.map_cons, List.map_nil]); first | done | rfl) ?_
          with_reducible refine (P2.out _).mono ?_
          rintro e w4 ⟨rfl, hb⟩
          refine ⟨_, rfl, ?_⟩
          replace A5 := Lib.hid (blk_below A5.out hb (blk_lt A5.out))
          replace A6 := Lib.hid (blk_below A6.out hb (blk_lt A6.out))
          replace hB1 := Lib.hid (blk_below hB1.out hb (blk_lt hB1.out))
          replace hB2 := Lib.hid (blk_below hB2.out hb (blk_lt hB2.out))
          replace HB := Lib.hid (HB.out.trans (hb.mono HB.out.size))
          clear hb
          refine hK.out _ _ ⟨(blk_cell hB1.out 0), (blk_cell hB1.out 1), (blk_cell hB1.out 2), (blk_cell hB2.out 0), (blk_cell hB2.out 1), (blk_cell hB2.out 2)⟩ (fun hHeld => ?_)
          clear hK K
          refine norm_ (a' := ?_) ?_ ?_
          rotate_left
          · show Act.put _ (some 22) _ = _
            simp only [Act.put, List.setIfInBounds_toArray, List.set_cons_zero, List.set_cons_succ, i64_w, i32_w]
            rfl
          exact norm_ (by simp only [putAll, Act.put, List.setIfInBounds_toArray, List.set_cons_zero, List.set_cons_succ]) (hCont (g5, g6) _ ⟨hB1.out, hB2.out, A5.out, A6.out, NE.out, G5.out, G6.out, HB.out⟩)
      · skip
        refine value_ (w1 := ?_) (v := ?_) (by rfl) rfl ?_ ?_
        rotate_left 2
        · go_simp
          constructor
          · rfl
          · rfl
        first | refine alloc_name (fun g6 w6 hk hb hg => ?_) | refine alloc_name_d (fun g6 w6 hk hb hg => ?_)
        have G6 : Hid (w.heap.size + 1 < g6) := Nat.lt_of_lt_of_le (blk_lt hB2.out) hg
        have NE : Hid (g5 ≠ g6) := Nat.ne_of_lt (Nat.lt_of_lt_of_le (blk_lt A5.out) hg)
        replace A5 := Lib.hid (blk_below A5.out hb (blk_lt A5.out))
        replace hB1 := Lib.hid (blk_below hB1.out hb (blk_lt hB1.out))
        replace hB2 := Lib.hid (blk_below hB2.out hb (blk_lt hB2.out))
        replace HB := Lib.hid (HB.out.trans (hb.mono HB.out.size))
        clear hb
        have A6 := Lib.hid hk
        clear hk hg
        refine hK.out _ _ ⟨(blk_cell hB1.out 0), (blk_cell hB1.out 1), (blk_cell hB1.out 2), (blk_cell hB2.out 0), (blk_cell hB2.out 1), (blk_cell hB2.out 2)⟩ (fun hHeld => ?_)
        clear hK K
        refine norm_ (a' := ?_) ?_ ?_
        rotate_left
        · show Act.put _ (some 6) _ = _
          simp only [Act.put, List.setIfInBounds_toArray, List.set_cons_zero, List.set_cons_succ, i64_w, i32_w]
          rfl
        refine one_ (i := 7) (N := some 14) #[true, true, true, true, true, true, true, true, true, true, true, true, true, true, true, false, true, true, false, false] rfl rfl (by kernel_rfl) (by decide) (fun K hK => ?_)
        refine goes_ Try.func83 (by kernel_rfl) rfl #[.int .u64 an, .int .u64 (bo + 1)] (by rfl) rfl rfl (by (try simp only [List.map_toArray, List.map_cons, List.map_nil]); first | done | rfl) ?_
        with_reducible refine (P1.out _).mono ?_
        rintro e w3 ⟨rfl, hb⟩
        refine ⟨_, rfl, ?_⟩
        replace A5 := Lib.hid (blk_below A5.out hb (blk_lt A5.out))
        replace A6 := Lib.hid (blk_below A6.out hb (blk_lt A6.out))
        replace hB1 := Lib.hid (blk_below hB1.out hb (blk_lt hB1.out))
        replace hB2 := Lib.hid (blk_below hB2.out hb (blk_lt hB2.out))
        replace HB := Lib.hid (HB.out.trans (hb.mono HB.out.size))
        clear hb
        refine hK.out _ _ ⟨(blk_cell hB1.out 0), (blk_cell hB1.out 1), (blk_cell hB1.out 2), (blk_cell hB2.out 0), (blk_cell hB2.out 1), (blk_cell hB2.out 2)⟩ (fun hHeld => ?_)
        clear hK K
        refine norm_ (a' := ?_) ?_ ?_
        rotate_left
        · show Act.put _ (some 14) _ = _
          simp only [Act.put, List.setIfInBounds_toArray, List.set_cons_zero, List.set_cons_succ, i64_w, i32_w]
          rfl
        refine one_ (i := 15) (N := some 22) #[true, true, true, true, true, true, true, true, true, true, true, true, true, true, true, true, true, true, false, false] rfl rfl (by kernel_rfl) (by decide) (fun K hK => ?_)
        refine goes_ Try.func83 (by kernel_rfl) rfl #[.int .u64 bn, .int .u64 (ao + 1)] (by rfl) rfl rfl (by (try simp only [List.map_toArray, List.map_cons, List.map_nil]); first | done | rfl) ?_
        with_reducible refine (P2.out _).mono ?_
        rintro e w4 ⟨rfl, hb⟩
        refine ⟨_, rfl, ?_⟩
        replace A5 := Lib.hid (blk_below A5.out hb (blk_lt A5.out))
        replace A6 := Lib.hid (blk_below A6.out hb (blk_lt A6.out))
        replace hB1 := Lib.hid (blk_below hB1.out hb (blk_lt hB1.out))
        replace hB2 := Lib.hid (blk_below hB2.out hb (blk_lt hB2.out))
        replace HB := Lib.hid (HB.out.trans (hb.mono HB.out.size))
        clear hb
        refine hK.out _ _ ⟨(blk_cell hB1.out 0), (blk_cell hB1.out 1), (blk_cell hB1.out 2), (blk_cell hB2.out 0), (blk_cell hB2.out 1), (blk_cell hB2.out 2)⟩ (fun hHeld => ?_)
        clear hK K
        refine norm_ (a' := ?_) ?_ ?_
        rotate_left
        · show Act.put _ (some 22) _ = _
          simp only [Act.put, List.setIfInBounds_toArray, List.set_cons_zero, List.set_cons_succ, i64_w, i32_w]
          rfl
        exact norm_ (by simp only [putAll, Act.put, List.setIfInBounds_toArray, List.set_cons_zero, List.set_cons_succ]) (hCont (g5, g6) _ ⟨hB1.out, hB2.out, A5.out, A6.out, NE.out, G5.out, G6.out, HB.out⟩)
    · skip
      refine value_ (w1 := ?_) (v := ?_) (by rfl) rfl ?_ ?_
      rotate_left 2
      · go_simp
        constructor
        · rfl
        · rfl
      first | refine alloc_name (fun g6 w6 hk hb hg => ?_) | refine alloc_name_d (fun g6 w6 hk hb hg => ?_)
      have G6 : Hid (w.heap.size + 1 < g6) := Nat.lt_of_lt_of_le (blk_lt hB2.out) hg
      replace hB1 := Lib.hid (blk_below hB1.out hb (blk_lt hB1.out))
      replace hB2 := Lib.hid (blk_below hB2.out hb (blk_lt hB2.out))
      replace HB := Lib.hid (HB.out.trans (hb.mono HB.out.size))
      clear hb
      have A6 := Lib.hid hk
      clear hk hg
      refine hK.out _ _ ⟨(blk_cell hB1.out 0), (blk_cell hB1.out 1), (blk_cell hB1.out 2), (blk_cell hB2.out 0), (blk_cell hB2.out 1), (blk_cell hB2.out 2)⟩ (fun hHeld => ?_)
      clear hK K
      refine norm_ (a' := ?_) ?_ ?_
      rotate_left
      · show Act.put _ (some 6) _ = _
        simp only [Act.put, List.setIfInBounds_toArray, List.set_cons_zero, List.set_cons_succ, i64_w, i32_w]
        rfl
      refine two_ (i := 7) (j := 16) (Ni := some 14) (Nj := some 5) #[true, true, true, true, true, true, true, true, true, true, true, true, true, true, true, false, false, true, false, false] #[true, true, true, true, true, true, true, false, true, true, true, true, true, true, true, false, true, true, false, false] rfl rfl rfl rfl (by kernel_rfl) (by decide) (by decide) (fun K hK => ?_) (fun K hK => ?_)
      · skip
        refine goes_ Try.func83 (by kernel_rfl) rfl #[.int .u64 an, .int .u64 (bo + 1)] (by rfl) rfl rfl (by (try simp only [List.map_toArray, List.map_cons, List.map_nil]); first | done | rfl) ?_
        with_reducible refine (P1.out _).mono ?_
        rintro e w3 ⟨rfl, hb⟩
        refine ⟨_, rfl, ?_⟩
        replace A6 := Lib.hid (blk_below A6.out hb (blk_lt A6.out))
        replace hB1 := Lib.hid (blk_below hB1.out hb (blk_lt hB1.out))
        replace hB2 := Lib.hid (blk_below hB2.out hb (blk_lt hB2.out))
        replace HB := Lib.hid (HB.out.trans (hb.mono HB.out.size))
        clear hb
        refine hK.out _ _ ⟨(blk_cell hB1.out 0), (blk_cell hB1.out 1), (blk_cell hB1.out 2), (blk_cell hB2.out 0), (blk_cell hB2.out 1), (blk_cell hB2.out 2)⟩ (fun hHeld => ?_)
        clear hK K
        refine norm_ (a' := ?_) ?_ ?_
        rotate_left
        · show Act.put _ (some 14) _ = _
          simp only [Act.put, List.setIfInBounds_toArray, List.set_cons_zero, List.set_cons_succ, i64_w, i32_w]
          rfl
        refine two_ (i := 15) (j := 16) (Ni := some 22) (Nj := some 5) #[true, true, true, true, true, true, true, true, true, true, true, true, true, true, true, true, false, true, false, false] #[true, true, true, true, true, true, true, true, true, true, true, true, true, true, true, false, true, true, false, false] rfl rfl rfl rfl (by kernel_rfl) (by decide) (by decide) (fun K hK => ?_) (fun K hK => ?_)
        · skip
          refine goes_ Try.func83 (by kernel_rfl) rfl #[.int .u64 bn, .int .u64 (ao + 1)] (by rfl) rfl rfl (by (try simp only [List.map_toArray, List.map_cons, List.map_nil]); first | done | rfl) ?_
          with_reducible refine (P2.out _).mono ?_
          rintro e w4 ⟨rfl, hb⟩
          refine ⟨_, rfl, ?_⟩
          replace A6 := Lib.hid (blk_below A6.out hb (blk_lt A6.out))
          replace hB1 := Lib.hid (blk_below hB1.out hb (blk_lt hB1.out))
          replace hB2 := Lib.hid (blk_below hB2.out hb (blk_lt hB2.out))
          replace HB := Lib.hid (HB.out.trans (hb.mono HB.out.size))
          clear hb
          refine hK.out _ _ ⟨(blk_cell hB1.out 0), (blk_cell hB1.out 1), (blk_cell hB1.out 2), (blk_cell hB2.out 0), (blk_cell hB2.out 1), (blk_cell hB2.out 2)⟩ (fun hHeld => ?_)
          clear hK K
          refine norm_ (a' := ?_) ?_ ?_
          rotate_left
          · show Act.put _ (some 22) _ = _
            simp only [Act.put, List.setIfInBounds_toArray, List.set_cons_zero, List.set_cons_succ, i64_w, i32_w]
            rfl
          refine one_ (i := 16) (N := some 5) #[true, true, true, true, true, true, true, true, true, true, true, true, true, true, true, true, true, true, false, false] rfl rfl (by kernel_rfl) (by decide) (fun K hK => ?_)
          refine value_ (w1 := ?_) (v := ?_) (by rfl) rfl ?_ ?_
          rotate_left 2
          · go_simp
            constructor
            · rfl
            · rfl
          first | refine alloc_name (fun g5 w5 hk hb hg => ?_) | refine alloc_name_d (fun g5 w5 hk hb hg => ?_)
          have G5 : Hid (w.heap.size + 1 < g5) := Nat.lt_of_lt_of_le (blk_lt hB2.out) hg
          have NE : Hid (g5 ≠ g6) := Nat.ne_of_gt (Nat.lt_of_lt_of_le (blk_lt A6.out) hg)
          replace A6 := Lib.hid (blk_below A6.out hb (blk_lt A6.out))
          replace hB1 := Lib.hid (blk_below hB1.out hb (blk_lt hB1.out))
          replace hB2 := Lib.hid (blk_below hB2.out hb (blk_lt hB2.out))
          replace HB := Lib.hid (HB.out.trans (hb.mono HB.out.size))
          clear hb
          have A5 := Lib.hid hk
          clear hk hg
          refine hK.out _ _ ⟨(blk_cell hB1.out 0), (blk_cell hB1.out 1), (blk_cell hB1.out 2), (blk_cell hB2.out 0), (blk_cell hB2.out 1), (blk_cell hB2.out 2)⟩ (fun hHeld => ?_)
          clear hK K
          refine norm_ (a' := ?_) ?_ ?_
          rotate_left
          · show Act.put _ (some 5) _ = _
            simp only [Act.put, List.setIfInBounds_toArray, List.set_cons_zero, List.set_cons_succ, i64_w, i32_w]
            rfl
          exact norm_ (by simp only [putAll, Act.put, List.setIfInBounds_toArray, List.set_cons_zero, List.set_cons_succ]) (hCont (g5, g6) _ ⟨hB1.out, hB2.out, A5.out, A6.out, NE.out, G5.out, G6.out, HB.out⟩)
        · skip
          refine value_ (w1 := ?_) (v := ?_) (by rfl) rfl ?_ ?_
          rotate_left 2
          · go_simp
            constructor
            · rfl
            · rfl
          first | refine alloc_name (fun g5 w5 hk hb hg => ?_) | refine alloc_name_d (fun g5 w5 hk hb hg => ?_)
          have G5 : Hid (w.heap.size + 1 < g5) := Nat.lt_of_lt_of_le (blk_lt hB2.out) hg
          have NE : Hid (g5 ≠ g6) := Nat.ne_of_gt (Nat.lt_of_lt_of_le (blk_lt A6.out) hg)
          replace A6 := Lib.hid (blk_below A6.out hb (blk_lt A6.out))
          replace hB1 := Lib.hid (blk_below hB1.out hb (blk_lt hB1.out))
          replace hB2 := Lib.hid (blk_below hB2.out hb (blk_lt hB2.out))
          replace HB := Lib.hid (HB.out.trans (hb.mono HB.out.size))
          clear hb
          have A5 := Lib.hid hk
          clear hk hg
          refine hK.out _ _ ⟨(blk_cell hB1.out 0), (blk_cell hB1.out 1), (blk_cell hB1.out 2), (blk_cell hB2.out 0), (blk_cell hB2.out 1), (blk_cell hB2.out 2)⟩ (fun hHeld => ?_)
          clear hK K
          refine norm_ (a' := ?_) ?_ ?_
          rotate_left
          · show Act.put _ (some 5) _ = _
            simp only [Act.put, List.setIfInBounds_toArray, List.set_cons_zero, List.set_cons_succ, i64_w, i32_w]
            rfl
          refine one_ (i := 15) (N := some 22) #[true, true, true, true, true, true, true, true, true, true, true, true, true, true, true, true, true, true, false, false] rfl rfl (by kernel_rfl) (by decide) (fun K hK => ?_)
          refine goes_ Try.func83 (by kernel_rfl) rfl #[.int .u64 bn, .int .u64 (ao + 1)] (by rfl) rfl rfl (by (try simp only [List.map_toArray, List.map_cons, List.map_nil]); first | done | rfl) ?_
          with_reducible refine (P2.out _).mono ?_
          rintro e w4 ⟨rfl, hb⟩
          refine ⟨_, rfl, ?_⟩
          replace A5 := Lib.hid (blk_below A5.out hb (blk_lt A5.out))
          replace A6 := Lib.hid (blk_below A6.out hb (blk_lt A6.out))
          replace hB1 := Lib.hid (blk_below hB1.out hb (blk_lt hB1.out))
          replace hB2 := Lib.hid (blk_below hB2.out hb (blk_lt hB2.out))
          replace HB := Lib.hid (HB.out.trans (hb.mono HB.out.size))
          clear hb
          refine hK.out _ _ ⟨(blk_cell hB1.out 0), (blk_cell hB1.out 1), (blk_cell hB1.out 2), (blk_cell hB2.out 0), (blk_cell hB2.out 1), (blk_cell hB2.out 2)⟩ (fun hHeld => ?_)
          clear hK K
          refine norm_ (a' := ?_) ?_ ?_
          rotate_left
          · show Act.put _ (some 22) _ = _
            simp only [Act.put, List.setIfInBounds_toArray, List.set_cons_zero, List.set_cons_succ, i64_w, i32_w]
            rfl
          exact norm_ (by simp only [putAll, Act.put, List.setIfInBounds_toArray, List.set_cons_zero, List.set_cons_succ]) (hCont (g5, g6) _ ⟨hB1.out, hB2.out, A5.out, A6.out, NE.out, G5.out, G6.out, HB.out⟩)
      · skip
        refine value_ (w1 := ?_) (v := ?_) (by rfl) rfl ?_ ?_
        rotate_left 2
        · go_simp
          constructor
          · rfl
          · rfl
        first | refine alloc_name (fun g5 w5 hk hb hg => ?_) | refine alloc_name_d (fun g5 w5 hk hb hg => ?_)
        have G5 : Hid (w.heap.size + 1 < g5) := Nat.lt_of_lt_of_le (blk_lt hB2.out) hg
        have NE : Hid (g5 ≠ g6) := Nat.ne_of_gt (Nat.lt_of_lt_of_le (blk_lt A6.out) hg)
        replace A6 := Lib.hid (blk_below A6.out hb (blk_lt A6.out))
        replace hB1 := Lib.hid (blk_below hB1.out hb (blk_lt hB1.out))
        replace hB2 := Lib.hid (blk_below hB2.out hb (blk_lt hB2.out))
        replace HB := Lib.hid (HB.out.trans (hb.mono HB.out.size))
        clear hb
        have A5 := Lib.hid hk
        clear hk hg
        refine hK.out _ _ ⟨(blk_cell hB1.out 0), (blk_cell hB1.out 1), (blk_cell hB1.out 2), (blk_cell hB2.out 0), (blk_cell hB2.out 1), (blk_cell hB2.out 2)⟩ (fun hHeld => ?_)
        clear hK K
        refine norm_ (a' := ?_) ?_ ?_
        rotate_left
        · show Act.put _ (some 5) _ = _
          simp only [Act.put, List.setIfInBounds_toArray, List.set_cons_zero, List.set_cons_succ, i64_w, i32_w]
          rfl
        refine one_ (i := 7) (N := some 14) #[true, true, true, true, true, true, true, true, true, true, true, true, true, true, true, false, true, true, false, false] rfl rfl (by kernel_rfl) (by decide) (fun K hK => ?_)
        refine goes_ Try.func83 (by kernel_rfl) rfl #[.int .u64 an, .int .u64 (bo + 1)] (by rfl) rfl rfl (by (try simp only [List.map_toArray, List.map_cons, List.map_nil]); first | done | rfl) ?_
        with_reducible refine (P1.out _).mono ?_
        rintro e w3 ⟨rfl, hb⟩
        refine ⟨_, rfl, ?_⟩
        replace A5 := Lib.hid (blk_below A5.out hb (blk_lt A5.out))
        replace A6 := Lib.hid (blk_below A6.out hb (blk_lt A6.out))
        replace hB1 := Lib.hid (blk_below hB1.out hb (blk_lt hB1.out))
        replace hB2 := Lib.hid (blk_below hB2.out hb (blk_lt hB2.out))
        replace HB := Lib.hid (HB.out.trans (hb.mono HB.out.size))
        clear hb
        refine hK.out _ _ ⟨(blk_cell hB1.out 0), (blk_cell hB1.out 1), (blk_cell hB1.out 2), (blk_cell hB2.out 0), (blk_cell hB2.out 1), (blk_cell hB2.out 2)⟩ (fun hHeld => ?_)
        clear hK K
        refine norm_ (a' := ?_) ?_ ?_
        rotate_left
        · show Act.put _ (some 14) _ = _
          simp only [Act.put, List.setIfInBounds_toArray, List.set_cons_zero, List.set_cons_succ, i64_w, i32_w]
          rfl
        refine one_ (i := 15) (N := some 22) #[true, true, true, true, true, true, true, true, true, true, true, true, true, true, true, true, true, true, false, false] rfl rfl (by kernel_rfl) (by decide) (fun K hK => ?_)
        refine goes_ Try.func83 (by kernel_rfl) rfl #[.int .u64 bn, .int .u64 (ao + 1)] (by rfl) rfl rfl (by (try simp only [List.map_toArray, List.map_cons, List.map_nil]); first | done | rfl) ?_
        with_reducible refine (P2.out _).mono ?_
        rintro e w4 ⟨rfl, hb⟩
        refine ⟨_, rfl, ?_⟩
        replace A5 := Lib.hid (blk_below A5.out hb (blk_lt A5.out))
        replace A6 := Lib.hid (blk_below A6.out hb (blk_lt A6.out))
        replace hB1 := Lib.hid (blk_below hB1.out hb (blk_lt hB1.out))
        replace hB2 := Lib.hid (blk_below hB2.out hb (blk_lt hB2.out))
        replace HB := Lib.hid (HB.out.trans (hb.mono HB.out.size))
        clear hb
        refine hK.out _ _ ⟨(blk_cell hB1.out 0), (blk_cell hB1.out 1), (blk_cell hB1.out 2), (blk_cell hB2.out 0), (blk_cell hB2.out 1), (blk_cell hB2.out 2)⟩ (fun hHeld => ?_)
        clear hK K
        refine norm_ (a' := ?_) ?_ ?_
        rotate_left
        · show Act.put _ (some 22) _ = _
          simp only [Act.put, List.setIfInBounds_toArray, List.set_cons_zero, List.set_cons_succ, i64_w, i32_w]
          rfl
        exact norm_ (by simp only [putAll, Act.put, List.setIfInBounds_toArray, List.set_cons_zero, List.set_cons_succ]) (hCont (g5, g6) _ ⟨hB1.out, hB2.out, A5.out, A6.out, NE.out, G5.out, G6.out, HB.out⟩)
  rintro ⟨g5, g6⟩ w5 ⟨hB1, hB2, hk5, hk6, hne, hg5, hg6, HB⟩
  replace hB1 := Lib.hid hB1
  replace hB2 := Lib.hid hB2
  replace HB := Lib.hid HB
  have A5 := Lib.hid hk5
  have A6 := Lib.hid hk6
  have c0 := (blk_cell hk5 0).trans rfl
  have c1 := (blk_cell hk5 1).trans rfl
  have c2 := (blk_cell hk6 0).trans rfl
  have c3 := (blk_cell hk6 1).trans rfl
  have f0 := blk_free hk5 0
  have f1 := blk_free hk5 1
  have f2 := blk_free hk6 0
  have f3 := blk_free hk6 1
  clear hk5 hk6
  have hHeld : w5.cell? ⟨w.heap.size, 0, none⟩ = some (.string ak) ∧ w5.cell? ⟨w.heap.size, 1, none⟩ = some (.int .i64 an) ∧ w5.cell? ⟨w.heap.size, 2, none⟩ = some (.int .i64 ao) ∧ w5.cell? ⟨w.heap.size + 1, 0, none⟩ = some (.string bk) ∧ w5.cell? ⟨w.heap.size + 1, 1, none⟩ = some (.int .i64 bn) ∧ w5.cell? ⟨w.heap.size + 1, 2, none⟩ = some (.int .i64 bo) := ⟨(blk_cell hB1.out 0), (blk_cell hB1.out 1), (blk_cell hB1.out 2), (blk_cell hB2.out 0), (blk_cell hB2.out 1), (blk_cell hB2.out 2)⟩
  refine norm_ (a' := ?_) ?_ ?_
  rotate_left
  · simp only [putAll, Act.put, List.setIfInBounds_toArray, List.set_cons_zero, List.set_cons_succ]
    rfl
  refine last_ (i := 18) (N := none) #[true, true, true, true, true, true, true, true, true, true, true, true, true, true, true, true, true, true, true, false] rfl rfl (by kernel_rfl) (by decide) (fun K hK => ?_)
  refine skip_ (w1 := ?_) (by rfl) rfl ?_ ?_
  rotate_left
  · go_simp
    rfl
  refine hK.out _ _ ?_
  clear hK K
  refine last_ (i := 19) (N := none) #[true, true, true, true, true, true, true, true, true, true, true, true, true, true, true, true, true, true, true, true] rfl rfl (by kernel_rfl) (by decide) (fun K hK => ?_)
  refine skip_ (w1 := ?_) (by rfl) rfl ?_ ?_
  rotate_left
  · go_simp
    rfl
  refine hK.out _ _ ?_
  clear hK K
  refine done_ (by kernel_rfl) ?_
  have hXY : (X < Y ↔ xh < yh ∨ (xh = yh ∧ xl < yl)) ∧ (X = Y ↔ xh = yh ∧ xl = yl) := by
    have e1 := hx.out
    have e2 := hy.out
    unfold lw at e1 e2
    simp only [Array.mk.injEq, List.cons.injEq, Value.int.injEq, true_and, and_true] at e1 e2
    rw [← e1.1, ← e1.2, ← e2.1, ← e2.2]
    exact ⟨lw_lt X Y, lw_eq X Y⟩
  have hcf : cfZ ⟨ak, an, ao⟩ ⟨bk, bn, bo⟩ = if cmpI Y X = 0 then (if cmpI bn an = 0 then cmpS ak bk else cmpI bn an) else cmpI Y X := by rw [hX.out, hY.out]; rfl
  replace hcf := Lib.hid hcf
  refine name_w (fun w' => (w'.heap[w.heap.size]? = some (.cells #[.string ak, .int .i64 an, .int .i64 ao] 35 (0, 0)) ∧ w'.heap[w.heap.size + 1]? = some (.cells #[.string bk, .int .i64 bn, .int .i64 bo] 35 (0, 0))) ∧ (w'.heap[g5]? = some (.cells #[.int .u64 xh, .int .u64 xl] 130 (0, 0)) ∧ w'.heap[g6]? = some (.cells #[.int .u64 yh, .int .u64 yl] 130 (0, 0))) ∧ Below w.heap.size w w') ⟨⟨?_, ?_⟩, ⟨?_, ?_⟩, ?_⟩ ?_
  · exact blk_ne (blk_ne (blk_ne (blk_ne hB1.out (by simp; omega) _) (by simp; omega) _) (by simp; omega) _) (by simp; omega) _
  · exact blk_ne (blk_ne (blk_ne (blk_ne hB2.out (by simp; omega) _) (by simp; omega) _) (by simp; omega) _) (by simp; omega) _
  · exact blk_ne (blk_ne (blk_set (blk_set A5.out _) _) (by simpa using hne) _) (by simpa using hne) _
  · exact blk_set (blk_set (blk_ne (blk_ne A6.out (by simpa using hne.symm) _) (by simpa using hne.symm) _) _) _
  · exact (((HB.out.setCell (by simp; omega) _).setCell (by simp; omega) _).setCell (by simp; omega) _).setCell (by simp; omega) _
  clear hHeld c0 c1 c2 c3 f0 f1 f2 f3 hB1 hB2 HB A5 A6
  rintro w7 ⟨⟨hB1, hB2⟩, ⟨A5, A6⟩, HB⟩
  have e0 := (blk_cell hB1 0).trans rfl
  have e1 := (blk_cell hB1 1).trans rfl
  have e3 := (blk_cell hB2 0).trans rfl
  have e4 := (blk_cell hB2 1).trans rfl
  have c0 := (blk_cell A5 0).trans rfl
  have c1 := (blk_cell A5 1).trans rfl
  have c2 := (blk_cell A6 0).trans rfl
  have c3 := (blk_cell A6 1).trans rfl
  replace hB1 := Lib.hid hB1
  replace hB2 := Lib.hid hB2
  replace A5 := Lib.hid A5
  replace A6 := Lib.hid A6
  replace HB := Lib.hid HB
  obtain ⟨hlt, heq⟩ := hXY
  by_cases hE : X = Y
  · obtain ⟨q1, q2⟩ := heq.1 hE
    subst q1 q2
    have hz : cmpI Y X = 0 := by rw [hE]; exact cmpI_ok.self Y
    have hR : decide (cfZ ⟨ak, an, ao⟩ ⟨bk, bn, bo⟩ < 0) = decide ((if cmpI bn an = 0 then cmpS ak bk else cmpI bn an) < 0) := by rw [hcf.out, if_pos hz]
    replace hR := Lib.hid hR
    clear hz hE heq hlt
    by_cases hn : an = bn
    · have d1 : (an != bn) = false := by simp [hn]
      have HR : Hid (Op.bytesLess ak.toList bk.toList = decide ((if cmpI bn an = 0 then cmpS ak bk else cmpI bn an) < 0)) := by
        show _ = _
        rw [hn, cmpI_ok.self, if_pos rfl]
        exact bl_cb ak bk
      clear hn
      go_wp2
      go_ret
      exact ⟨ret_bool (HR.out.trans hR.out.symm), HB.out⟩
    · have d1 : (an != bn) = true := by simp [hn]
      have HR : Hid (decide (bn < an) = decide ((if cmpI bn an = 0 then cmpS ak bk else cmpI bn an) < 0)) := by
        show _ = _
        rw [if_neg (fun h => hn (cmpI_zero.1 h).symm), decide_eq_decide, cmpI_lt]
      clear hn
      go_wp2
      go_ret
      exact ⟨ret_bool (HR.out.trans hR.out.symm), HB.out⟩
  · have P3 : Hid (∀ w, Calls Try.prog 84 #[.agg #[.int .u64 yh, .int .u64 yl], .agg #[.int .u64 xh, .int .u64 xl]] w fun e w' => e = .returned (.bool (decide (Y < X))) ∧ Below w.heap.size w w') := fun w => by
      have := rless_calls Y X w
      rwa [hx.out, hy.out] at this
    have hR : Hid (decide (Y < X) = decide (cfZ ⟨ak, an, ao⟩ ⟨bk, bn, bo⟩ < 0)) := by
      show _ = _
      rw [hcf.out, if_neg (fun h => hE (cmpI_zero.1 h).symm), decide_eq_decide, cmpI_lt]
    have hne2 : ¬ (xh = yh ∧ xl = yl) := fun h => hE (heq.2 h)
    clear hE heq hlt
    by_cases q1 : xh = yh
    · have q2 : ¬ xl = yl := fun h => hne2 ⟨q1, h⟩
      have b2 : (xl == yl) = false := by simp [q2]
      have b3 : (xl != yl) = true := by simp [q2]
      clear hne2
      subst q1
      go_wp2_with fail
      refine (P3.out _).mono ?_
      rintro e w8 ⟨rfl, hb⟩
      replace HB := Lib.hid (HB.out.trans (hb.mono HB.out.size))
      clear hb
      go_wp2
      go_ret
      exact ⟨ret_bool hR.out, HB.out⟩
    · have b2 : (xh == yh) = false := by simp [q1]
      have b3 : (xh != yh) = true := by simp [q1]
      clear hne2
      go_wp2_with fail
      refine (P3.out _).mono ?_
      rintro e w8 ⟨rfl, hb⟩
      replace HB := Lib.hid (HB.out.trans (hb.mono HB.out.size))
      clear hb
      go_wp2
      go_ret
      exact ⟨ret_bool hR.out, HB.out⟩
end Go.Proofs.Ytmddlbgdmdepdaa
