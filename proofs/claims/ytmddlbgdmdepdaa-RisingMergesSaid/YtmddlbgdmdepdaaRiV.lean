/- RisingPane: the law's function returns true, by a walk. No condition. -/
import Derived.Test.YtmddlbgdmdepdaaRiU
set_option linter.unusedVariables false
set_option linter.unusedSimpArgs false
set_option maxRecDepth 100000
namespace Go.Proofs.Ytmddlbgdmdepdaa
open Go.Maps Go.MapKept Go.RowKit Go.ChangeMaps Go.Shelf CK Go.Proofs.YtmddlbgdmdepdaaW.PrintLast

/-- a row of bytes -/
def U8sAt (w : World) (l : List Int) (v : Value) : Prop := SliceR 1 (fun _ n cs => cs = [.int .u8 n] ∧ (Lit.int .u8 n).wf = true) w l v
theorem U8sAt.below {w w' : World} {l : List Int} {v : Value} (h : U8sAt w l v) (hb : Below w.heap.size w w') : U8sAt w' l v := SliceR.below h hb fun _ _ h => h
theorem openU8 {H : Type} {enc : TypeId × Value → H} {w : World} {base : Nat} {sp : Nat → Bool} {held : Bool} {fuel : Nat} {cs : List Value} {x : DataW H × List MemPlace}
    (h : DataW.trod enc Try.prog w base sp held fuel 5 cs = some x) : ∃ n : Int, cs = [.int .u8 n] ∧ (Lit.int .u8 n).wf = true := by
  obtain ⟨b, e, _, k⟩ := DataW.trod_int Try.underlying5 h
  exact ⟨b, e, k⟩
theorem u8_at {w : World} {l : List Int} {v : Value} (h : U8sAt w l v) {k : Nat} (hk : k < l.length) : ∃ b o cap, v = .slice (some ⟨b, o, none⟩) l.length cap ∧ b < w.heap.size ∧ (0 ≤ l[k] ∧ l[k] ≤ 255) ∧ w.cell? ⟨b, o + k, none⟩ = some (.int .u8 l[k]) := by
  rcases h with ⟨rfl, _⟩ | ⟨b, o, cap, rfl, _, _, _, h3, h4⟩
  · simp at hk
  · obtain ⟨ce, _, ⟨rfl, hw⟩, hc⟩ := h4 k hk
    exact ⟨b, o, cap, rfl, h3, bounds_u8 hw, by simpa using hc 0 (by omega)⟩
/-- a row of rises stays where panes are written -/
theorem rowZ_fr {w w' : World} {L : List Rz} {v : Value} {p : Nat} {wd ad : Int} {b : Nat} {m : Sums} (h : CK.RowK encZ 3 w L v) (hp : PanesAt w p wd ad b m) (hf : Fr [p, b] w w') : CK.RowK encZ 3 w' L v := by
  rcases h with h | ⟨g, o, cap, h0, h1, h2, h3, h4, h5⟩
  · exact .inl h
  · obtain ⟨ce, k1, k2, k3⟩ := h5 0 (List.length_pos_iff.2 h1)
    have hc := k3 0 (by omega)
    simp only [k2, encZ, Nat.zero_mul, Nat.add_zero] at hc
    have hc' : w.cell? ⟨g, o, none⟩ = some (.string (L[0]'(List.length_pos_iff.2 h1)).key) := hc
    have hgp : g ≠ p := by
      rintro rfl
      rw [blk_cell hp.blk] at hc'
      match o, hc' with
      | 0, h => simp at h
      | 1, h => simp at h
      | 2, h => simp at h
      | n + 3, h => simp at h
    have hgb : g ≠ b := by
      rintro rfl
      obtain ⟨es, c, hm, _⟩ := hp.map
      rw [World.cell?, hm] at hc'
      simp at hc'
    refine .inr ⟨g, o, cap, h0, h1, h2, h3, Nat.lt_of_lt_of_le h4 hf.size, fun i hi => ?_⟩
    obtain ⟨ce, k1, k2, k3⟩ := h5 i hi
    exact ⟨ce, k1, k2, fun j hj => (hf.cell (p := ⟨g, o + i * 3 + j, none⟩) h4 (by simp [hgp, hgb])).trans (k3 j hj)⟩
theorem rangeSum_app (l E : List Add) (key : ByteArray) (f e : Int) (h : ∀ a ∈ E, e ≤ a.at_) : rangeSum (l ++ E) key f e = rangeSum l key f e := by
  unfold rangeSum
  rw [List.filter_append]
  have : (E.filter fun a => rightB a && decide (a.key = key) && (decide (f ≤ a.at_) && decide (a.at_ < e))) = [] := by
    rw [List.filter_eq_nil_iff]
    intro a ha h'
    simp only [Bool.and_eq_true, decide_eq_true_eq] at h'
    have := h a ha
    omega
  rw [this, List.append_nil]
theorem risL_same (l l2 : List Add) (hl : l.length ≤ 1000) (hl2 : l2.length ≤ 1000) (wd sp now fl : Int) (h : ∀ k, riseOf l2 wd sp now k = riseOf l wd sp now k) : risL l2 wd sp now fl = risL l wd sp now fl := by
  obtain ⟨h1, h2, h3⟩ := risL_facts l hl wd sp now fl
  obtain ⟨k1, k2, k3⟩ := risL_facts l2 hl2 wd sp now fl
  have hp : (risL l2 wd sp now fl).Perm (risL l wd sp now fl) := (List.perm_ext_iff_of_nodup k2 h2).2 fun c => by
    rw [h1 c, k1 c, h]
    constructor
    · rintro ⟨a1, a2, a3, a4, a5⟩
      refine ⟨a1, a2, a3, a4, rangeSum_has (f := now - now % wd - sp) (e := now - now % wd) ?_⟩
      have : c.nw = rangeSum l c.key (now - now % wd - sp) (now - now % wd) := congrArg Rz.nw a2
      omega
    · rintro ⟨a1, a2, a3, a4, a5⟩
      refine ⟨a1, a2, a3, a4, rangeSum_has (f := now - now % wd - sp) (e := now - now % wd) ?_⟩
      have h7 : c.nw = (riseOf l2 wd sp now c.key).nw := by rw [h]; exact congrArg Rz.nw a2
      have : c.nw = rangeSum l2 c.key (now - now % wd - sp) (now - now % wd) := h7
      omega
  refine inOrder_flip cfZ_flip hp k3 h3 fun x hx y hy e => ?_
  have e1 := ((k1 x).1 hx).2.1
  have e2 := ((k1 y).1 hy).2.1
  rw [e1, e2, cfZ_eq e]
theorem rightB_mk (k : ByteArray) (x n : Int) (hk : (decide (1 ≤ k.size) && decide (k.size ≤ 24)) = true) (h1 : 0 ≤ x) (h2 : x ≤ 1099511627776) (h3 : 0 ≤ n) (h4 : n ≤ 1048576) : rightB ⟨k, x, n⟩ = true := by
  simp only [Bool.and_eq_true, decide_eq_true_eq] at hk
  simp only [rightB, Bool.and_eq_true, decide_eq_true_eq]
  exact ⟨⟨⟨⟨⟨hk.1, hk.2⟩, h1⟩, h2⟩, h3⟩, h4⟩
/-- one add more in panes of adds -/
theorem addMore {w w' : World} {p : Nat} {wd : Int} {b : Nat} {l : List Add} {a : Add} {e : Ending} (hr : rightB a = true) (hn : l.length ≤ 1000) (h : AddPost w p wd (cntOf l) b (sumsOf wd l) a.key a.at_ a.n e w') :
    e = .returned (.bool true) ∧ Fr [p, b] w w' ∧ PanesAt w' p wd (cntOf (l ++ [a])) b (sumsOf wd (l ++ [a])) := by
  obtain ⟨h1, h2, h3⟩ := h
  have ht : takes (cntOf l) a.key a.at_ a.n = true := by rw [takes_right a _ (by have := cntOf_le l; omega)]; exact hr
  rw [ht, if_pos rfl, if_pos rfl] at h3
  rw [ht] at h1
  refine ⟨h1, h2, ?_⟩
  rw [cntOf_snoc, sumsOf_snoc, hr, if_pos rfl, if_pos rfl]
  exact h3
set_option maxHeartbeats 4000000 in
theorem law_pane (x : Int) (l : List Add) (v : Value) (t now : Int) (mo : List Int) (vm : Value) (w : World) (h0 : (Lit.int .u8 x).wf = true) (hl : AddsAt w l v) (h1 : (Lit.int .u8 t).wf = true) (h2 : (Lit.int .u16 now).wf = true) (hu : U8sAt w mo vm) :
    Calls Try.prog 9 #[.int .u8 x, v, .int .u8 t, .int .u16 now, vm] w (BoolPost w true) := by
  have x1 := bounds_u8 h0
  have t1 := bounds_u8 h1
  have n1 := bounds_u16 h2
  clear h0 h1 h2
  have HL := Lib.hid hl
  have HU := Lib.hid hu
  have HB : Hid (Below w.heap.size w w) := Below.refl _ _
  have HU0 := Lib.hid hu
  clear hl
  obtain ⟨uo, uc, rfl, hum⟩ := SliceR.shape hu
  have hul : mo.length ≤ 9223372036854775807 := by unfold maxLen at *; omega
  clear hu hum
  obtain ⟨W, hW⟩ : ∃ W, 1 + x % 20 = W := ⟨_, rfl⟩
  obtain ⟨A, hA⟩ : ∃ A, 1 + t % 4 = A := ⟨_, rfl⟩
  have W1 : 1 ≤ W ∧ W ≤ 20 := by omega
  have A1 : 1 ≤ A ∧ A ≤ 4 := by omega
  obtain ⟨sp, hsp⟩ : ∃ sp, W * A = sp := ⟨_, rfl⟩
  have sp1 : 1 ≤ sp := by rw [← hsp]; exact Int.le_trans W1.1 (Int.le_mul_of_pos_right' W A W1.1 A1.1)
  have sp2 : sp ≤ 80 := by rw [← hsp]; exact Int.mul_le_mul (a := W) (b := A) (c := 20) (d := 4) W1.2 A1.2 (by omega) (by omega)
  cases hlong : longC l
  case true =>
    have HLo := Lib.hid hlong
    clear hlong
    go_enter Try.func9, Try.ntmps9
    go_wp2_with fail
    refine (long19_calls _ l _ HL.out).mono ?_
    rintro e' w1 ⟨rfl, hb⟩
    rw [HLo.out]
    replace HL := Lib.hid (HL.out.below hb)
    replace HU := Lib.hid (HU.out.below hb)
    replace HB := Lib.hid (HB.out.trans ((show Below _ _ _ from hb).mono HB.out.size))
    clear hb
    go_wp2_with fail
    refine (awake19_calls _).mono ?_
    rintro e' w2 ⟨rfl, hb⟩
    replace HB := Lib.hid (HB.out.trans ((show Below _ _ _ from hb).mono HB.out.size))
    clear hb
    go_wp2
    go_ret
    exact ⟨rfl, HB.out⟩
  have hlen := longC_false hlong
  have HLo := Lib.hid hlong
  clear hlong
  by_cases hml : mo.length ≤ 20
  case neg =>
    have d1 : decide ((20 : Int) < (mo.length : Int)) = true := by rw [decide_eq_true_iff]; omega
    have d2 : decide (20 < mo.length) = true := by rw [decide_eq_true_iff]; omega
    go_enter Try.func9, Try.ntmps9
    go_wp2_with fail
    refine (long19_calls _ l _ HL.out).mono ?_
    rintro e' w1 ⟨rfl, hb⟩
    rw [HLo.out]
    replace HL := Lib.hid (HL.out.below hb)
    replace HU := Lib.hid (HU.out.below hb)
    replace HB := Lib.hid (HB.out.trans ((show Below _ _ _ from hb).mono HB.out.size))
    clear hb
    go_wp2_with fail
    refine (awake19_calls _).mono ?_
    rintro e' w2 ⟨rfl, hb⟩
    replace HB := Lib.hid (HB.out.trans ((show Below _ _ _ from hb).mono HB.out.size))
    clear hb
    go_wp2
    go_ret
    exact ⟨rfl, HB.out⟩
  have d1 : decide ((20 : Int) < (mo.length : Int)) = false := by rw [decide_eq_false_iff_not]; omega
  have d2 : decide (20 < mo.length) = false := by rw [decide_eq_false_iff_not]; omega
  go_enter Try.func9, Try.ntmps9
  go_wp2_with fail
  refine (long19_calls _ l _ HL.out).mono ?_
  rintro e' w1 ⟨rfl, hb⟩
  rw [HLo.out]
  replace HL := Lib.hid (HL.out.below hb)
  replace HU := Lib.hid (HU.out.below hb)
  replace HB := Lib.hid (HB.out.trans ((show Below _ _ _ from hb).mono HB.out.size))
  clear hb
  go_wp2_with fail
  have hw0 := HB.out.size
  refine (fill19_calls _ W l _ HL.out (by omega)).mono ?_
  rintro e' w2 ⟨p, pb, rfl, hp1, hg1, hg2, hb⟩
  rw [show min (max W 1) 1099511627776 = W by omega] at hp1
  replace HU := Lib.hid (HU.out.below hb)
  have HP := Lib.hid hp1
  have HGE : Hid (w.heap.size ≤ p ∧ w.heap.size ≤ pb) := ⟨by omega, by omega⟩
  clear hp1 hg1 hg2 HL HLo hw0
  replace HB := Lib.hid (HB.out.trans ((show Below _ _ _ from hb).mono HB.out.size))
  clear hb
  go_wp2_with fail
  refine (of_any _ l (by omega) p W _ pb sp now 1 HP.out).mono ?_
  rintro e' w3 ⟨v1, rfl, hr1, hb⟩
  replace HU := Lib.hid (HU.out.below hb)
  replace HP := Lib.hid (HP.out.below hb)
  have HR1 := Lib.hid hr1
  clear hr1
  replace HB := Lib.hid (HB.out.trans ((show Below _ _ _ from hb).mono HB.out.size))
  clear hb
  have hmod0 : 0 ≤ now % W := Int.emod_nonneg _ (by omega)
  have hmod1 : now % W ≤ now := mod_le n1.1 W1.1
  have hmod2 : now % W < W := Int.emod_lt_of_pos _ (by omega)
  have HPl : Hid (p < w3.heap.size ∧ pb < w3.heap.size) := ⟨blk_lt HP.out.blk, HP.out.map.lt⟩
  go_wp2
  go_loopg [55] mo.length (fun m i wr => ∃ (q : Nat) (E : List Add), q + m = mo.length ∧ i = .int .i64 q ∧ E.length = 2 * q ∧ Hid (∀ a ∈ E, now - now % W ≤ a.at_) ∧ Hid (PanesAt wr p W (cntOf (l ++ E)) pb (sumsOf W (l ++ E))) ∧ Hid (Fr [p, pb] w3 wr))
  case atStart => exact ⟨0, [], by omega, rfl, rfl, Lib.hid (by simp), by rw [List.append_nil]; exact HP, Fr.refl _ _⟩
  case round =>
    obtain ⟨q, E, hqm, rfl, hEl, HE, HPr, HF⟩ := hrel
    by_cases hqn : q < mo.length
    · obtain ⟨b, f, d, q1, hb1, hm1, e0⟩ := u8_at HU0.out hqn
      cases q1
      obtain ⟨m, hm⟩ : ∃ m, m = mo[q] := ⟨_, rfl⟩
      rw [← hm] at hm1 e0
      have k0 : wr.cell? ⟨b, f + q, none⟩ = some (.int .u8 m) := (HF.out.cell (p := ⟨b, f + q, none⟩) (Nat.lt_of_lt_of_le hb1 HB.out.size) (by have := HGE.out; simp; omega)).trans ((HB.out.cell (p := ⟨b, f + q, none⟩) hb1).trans e0)
      clear hm e0
      go_wp2_with fail
      refine (add_calls _ p W _ pb _ ⟨#[97]⟩ (now - now % W + q) m HPr.out (by decide)).mono ?_
      rintro e' w4 h
      obtain ⟨rfl, hfr, hpa⟩ := addMore (a := ⟨⟨#[97]⟩, now - now % W + q, m⟩) (rightB_mk _ _ _ (by decide) (by omega) (by omega) (by omega) (by omega)) (by rw [List.length_append]; omega) h
      replace HPr := Lib.hid hpa
      replace HF := Lib.hid (HF.out.trans hfr (fun _ h => .inl h) (fun _ h => .inl h))
      clear h hfr hpa k0
      go_wp2_with fail
      refine (add_calls _ p W _ pb _ ⟨#[110, 101, 119]⟩ (now - now % W + m) 7 HPr.out (by decide)).mono ?_
      rintro e' w5 h
      obtain ⟨rfl, hfr, hpa⟩ := addMore (a := ⟨⟨#[110, 101, 119]⟩, now - now % W + m, 7⟩) (rightB_mk _ _ _ (by decide) (by omega) (by omega) (by omega) (by omega)) (by rw [List.length_append, List.length_append, List.length_singleton]; omega) h
      replace HPr := Lib.hid hpa
      replace HF := Lib.hid (HF.out.trans hfr (fun _ h => .inl h) (fun _ h => .inl h))
      clear h hfr hpa
      go_wp2
      go_roundg (mo.length - (q + 1))
      case measure => omega
      case rel =>
        refine ⟨q + 1, E ++ [⟨⟨#[97]⟩, now - now % W + q, m⟩] ++ [⟨⟨#[110, 101, 119]⟩, now - now % W + m, 7⟩], by omega, by go_num, by simp; omega, ?_, ?_, HF⟩
        · intro a ha
          rcases List.mem_append.1 ha with ha | ha
          · rcases List.mem_append.1 ha with ha | ha
            · exact HE.out a ha
            · simp at ha; subst ha; show _ ≤ now - now % W + (q : Int); omega
          · simp at ha; subst ha; show _ ≤ now - now % W + m; omega
        · have := HPr.out
          rw [List.append_assoc l, List.append_assoc l] at this
          exact this
    · obtain rfl : q = mo.length := by omega
      have hsame : risL (l ++ E) W sp now 1 = risL l W sp now 1 := risL_same l (l ++ E) (by omega) (by rw [List.length_append]; omega) W sp now 1 fun k => by
        unfold riseOf
        rw [rangeSum_app l E k _ _ HE.out, rangeSum_app l E k (now - now % W - 2 * sp) (now - now % W - sp) fun a ha => by have := HE.out a ha; omega]
      have HS := Lib.hid hsame
      replace HR1 := Lib.hid (rowZ_fr HR1.out HP.out HF.out)
      replace HB := Lib.hid (HB.out.trans (HF.out.below HB.out.size (by have := HGE.out; simp; omega)))
      clear hsame HE HF HP
      go_wp2_with fail
      refine (of_any2 _ (l ++ E) (by rw [List.length_append]; omega) p W _ pb sp now 1 HPr.out).mono ?_
      rintro e' w6 ⟨v2, rfl, hr2, hb⟩
      rw [HS.out] at hr2
      replace HR1 := Lib.hid (HR1.out.below hb)
      have HR2 := Lib.hid hr2
      clear hr2
      replace HB := Lib.hid (HB.out.trans ((show Below _ _ _ from hb).mono HB.out.size))
      clear hb
      go_wp2_with fail
      refine (sameZ_calls _ _ _ _ _ HR2.out HR1.out rfl).mono ?_
      rintro e' w7 ⟨rfl, hb⟩
      replace HB := Lib.hid (HB.out.trans ((show Below _ _ _ from hb).mono HB.out.size))
      clear hb
      go_wp2_with fail
      refine (awake19_calls _).mono ?_
      rintro e' w2 ⟨rfl, hb⟩
      replace HB := Lib.hid (HB.out.trans ((show Below _ _ _ from hb).mono HB.out.size))
      clear hb
      go_wp2
      go_ret
      exact ⟨rfl, HB.out⟩
end Go.Proofs.Ytmddlbgdmdepdaa
