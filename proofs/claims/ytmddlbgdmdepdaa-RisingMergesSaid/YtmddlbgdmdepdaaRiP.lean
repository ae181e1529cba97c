/- The contracts of rising.may, Of and Top, by walks. No condition. -/
import Derived.Test.YtmddlbgdmdepdaaRiO
import Derived.Test.YtmddlbgdmdepdaaSortG
import Derived.Test.YtmddlbgdmdepdaaTopW
set_option linter.unusedVariables false
set_option linter.unusedSimpArgs false
set_option maxRecDepth 100000
namespace Go.Proofs.Ytmddlbgdmdepdaa
open Go.Maps Go.MapKept Go.RowKit Go.ChangeMaps Go.Shelf CK Go.Proofs.YtmddlbgdmdepdaaW.PrintLast

theorem rmay_nil (w : World) (sp now : Int) : Calls Try.prog 42 #[.pointer none, .int .i64 sp, .int .i64 now] w (BoolPost w false) := by
  have HB : Hid (Below w.heap.size w w) := Below.refl _ _
  go_enter Try.func42, Try.ntmps42
  go_wp2
  go_ret
  exact ⟨rfl, HB.out⟩
theorem rmayp_calls (w : World) (p : Nat) (wd ad : Int) (b : Nat) (m) (sp now : Int) (h : PanesAt w p wd ad b m) : Calls Try.prog 42 #[.pointer (some ⟨p, 0, none⟩), .int .i64 sp, .int .i64 now] w (BoolPost w (mayR wd sp now)) := by
  have HB : Hid (Below w.heap.size w w) := Below.refl _ _
  have hw := h.w1
  have HP := Lib.hid h
  clear h
  by_cases h1 : 1 ≤ sp
  · by_cases h2 : sp ≤ 1099511627776
    · have hm : (sp % wd == 0) = decide (sp % wd = 0) := rfl
      by_cases h3 : sp % wd = 0
      · have d3 : (sp % wd == 0) = true := by simp [h3]
        by_cases h4 : 0 ≤ now
        · have HR : Hid (decide (now ≤ 1099511627776) = mayR wd sp now) := by show _ = _; simp [mayR, h1, h2, h3, h4]
          clear h3 hm
          go_enter Try.func42, Try.ntmps42
          go_wp2_with fail
          refine (width_calls _ _ wd _ b _ HP.out).mono ?_
          rintro e w1 ⟨rfl, rfl⟩
          go_wp2
          all_goals
            go_ret
            exact ⟨ret_bool (by rw [← HR.out] <;> (symm; simp; omega)), HB.out⟩
        · have HR : Hid (mayR wd sp now = false) := by show _ = _; simp [mayR, h4]
          rw [HR.out]
          clear h3 hm
          go_enter Try.func42, Try.ntmps42
          go_wp2_with fail
          refine (width_calls _ _ wd _ b _ HP.out).mono ?_
          rintro e w1 ⟨rfl, rfl⟩
          go_wp2
          go_ret
          exact ⟨rfl, HB.out⟩
      · have d3 : (sp % wd == 0) = false := by simp [h3]
        have HR : Hid (mayR wd sp now = false) := by show _ = _; simp [mayR, h3]
        rw [HR.out]
        clear h3 hm
        go_enter Try.func42, Try.ntmps42
        go_wp2_with fail
        refine (width_calls _ _ wd _ b _ HP.out).mono ?_
        rintro e w1 ⟨rfl, rfl⟩
        go_wp2
        go_ret
        exact ⟨rfl, HB.out⟩
    · have HR : Hid (mayR wd sp now = false) := by show _ = _; simp [mayR, h2]
      rw [HR.out]
      go_enter Try.func42, Try.ntmps42
      go_wp2
      go_ret
      exact ⟨rfl, HB.out⟩
  · have HR : Hid (mayR wd sp now = false) := by show _ = _; simp [mayR, h1]
    rw [HR.out]
    go_enter Try.func42, Try.ntmps42
    go_wp2
    go_ret
    exact ⟨rfl, HB.out⟩

/-! ### the sort of rises -/
abbrev Rv := {r : Rz // r.ok}
instance : Inhabited Rv := ⟨⟨⟨⟨#[]⟩, 0, 0⟩, by simp [Rz.ok]⟩⟩
def encZ (r : Rz) : List Value := [.string r.key, .int .i64 r.nw, .int .i64 r.od]
def encV (r : Rv) : List Value := encZ r.1
theorem encZ_len (r : Rz) : (encZ r).length = 3 := rfl
def cfV (a b : Rv) : Int := cfZ a.1 b.1
theorem cfV_ok : CmpOk cfV := by
  have h1 : CmpOk fun a b : Rv => cmpI (a.1.nw * (b.1.od + 1)) (b.1.nw * (a.1.od + 1)) := ⟨fun a b => cmpI_ok.flip _ _, fun a b c k1 k2 => by
    rw [cmpI_le] at *
    have := a.2; have := b.2; have := c.2
    simp only [Rz.ok] at *
    exact cross_trans (by omega) (by omega) (by omega) k1 k2⟩
  have h2 : CmpOk fun a b : Rv => cmpI a.1.nw b.1.nw := cmpI_ok.comap fun a : Rv => a.1.nw
  have h3 : CmpOk fun a b : Rv => cmpS a.1.key b.1.key := cmpS_ok.comap fun a : Rv => a.1.key
  exact h1.turn.lex (h2.turn.lex h3)
theorem cfZ_eq {a b : Rz} (h : cfZ a b = 0) : a.key = b.key := by
  unfold cfZ at h
  split at h
  · split at h
    · exact cmpS_eq h
    · omega
  · omega
theorem ofCmpV_calls (x y : Rv) (w : World) : Calls Try.prog 45 #[.agg (encV x).toArray, .agg (encV y).toArray] w fun e w' => e = .returned (.int .i64 (cfV x y)) ∧ Gr w w' := ofCmp_calls x.1 y.1 x.2 y.2 w
theorem infoRise : (Try.prog.info? 35).map (fun i => (i.zero, i.size, i.bytes)) = some (some (.agg #[.string ⟨#[]⟩, .int .i64 0, .int .i64 0]), 3, 32) := by kernel_rfl
theorem lift_ok : ∀ l : List Rz, (∀ r ∈ l, r.ok) → ∃ l' : List Rv, l'.map (·.1) = l
  | [], _ => ⟨[], rfl⟩
  | a :: r, h => by
    obtain ⟨l', hl⟩ := lift_ok r fun x hx => h x (List.mem_cons_of_mem _ hx)
    exact ⟨⟨a, h a (by simp)⟩ :: l', by rw [List.map_cons, hl]⟩
theorem flat_map_v (l : List Rv) : l.flatMap encV = (l.map (·.1)).flatMap encZ := by
  rw [List.flatMap_map]; rfl
theorem inOrder_map {l : List Rv} (h : InOrder cfV l) : InOrder cfZ (l.map (·.1)) := by
  rw [InOrder, List.pairwise_map]; exact h
theorem rowK_map {α β : Type} {enc : β → List Value} {k : Nat} {w : World} {l : List α} {v : Value} (f : α → β) (h : CK.RowK (fun x => enc (f x)) k w l v) : CK.RowK enc k w (l.map f) v := by
  rcases h with ⟨rfl, h⟩ | ⟨b, off, cap, h1, h2, h3, h4, h5, h6⟩
  · exact .inl ⟨rfl, h⟩
  · refine .inr ⟨b, off, cap, by rw [List.length_map]; exact h1, by simpa using h2, by rw [List.length_map]; exact h3, h4, h5, ?_⟩
    intro i hi
    rw [List.length_map] at hi
    obtain ⟨ce, k1, k2, k3⟩ := h6 i hi
    exact ⟨ce, k1, by rw [List.getElem_map]; exact k2, k3⟩
/-- slices.SortFunc at rises of the call's own -/
theorem sortRise_calls (w : World) (B : Nat) (l : List Rz) (v : Value) (hb : B ≤ w.heap.size) (h : w.ownsRow B 35 3 v l.length (l.flatMap encZ)) (hsz : l.length < 4611686018427387904) (hok : ∀ r ∈ l, r.ok) :
    Calls Try.prog 44 #[v, .func (.func 45) #[] #[]] w fun e w' => e = .returned (.tuple #[]) ∧ ∃ l', l'.Perm l ∧ InOrder cfZ l' ∧ CK.RowK encZ 3 w' l' v ∧ RowKit.Below B w w' := by
  obtain ⟨lv, rfl⟩ := lift_ok l hok
  rw [List.length_map, ← flat_map_v] at h
  have hcon := sortFunc_any Try.sortRiseL 3 (by omega) Try.isAgg35 Try.sizeOf35 encV (fun _ => rfl) (fun x u hu => by simp [encV, encZ] at hu; rcases hu with rfl | rfl | rfl <;> rfl) cfV cfV_ok 45 (enters_of Try.func45 (by kernel_rfl) rfl) ofCmpV_calls w B lv v 35 hb h (by simpa using hsz)
  change Calls Try.prog 44 _ _ _ at hcon
  refine hcon.mono ?_
  rintro e w' ⟨rfl, l', hp, ho, hr, hbl⟩
  exact ⟨rfl, l'.map (·.1), hp.map _, inOrder_map ho, rowK_map (fun r : Rv => r.1) hr, hbl⟩
/-- the rises of keys -/
def risesOf (m : Sums) (ks : List ByteArray) (f0 f g fl : Int) : List Rz := (ks.filter fun k => decide (fl ≤ psum m k f g)).map fun k => ⟨k, psum m k f g, psum m k f0 f⟩
theorem risesOf_perm {m : Sums} {ks ks' : List ByteArray} (h : ks.Perm ks') (f0 f g fl : Int) : (risesOf m ks f0 f g fl).Perm (risesOf m ks' f0 f g fl) := (h.filter _).map _
theorem risesOf_snoc (m : Sums) (ks : List ByteArray) (k : ByteArray) (f0 f g fl : Int) : risesOf m (ks ++ [k]) f0 f g fl = risesOf m ks f0 f g fl ++ if fl ≤ psum m k f g then [⟨k, psum m k f g, psum m k f0 f⟩] else [] := by
  unfold risesOf
  rw [List.filter_append, List.map_append]
  congr 1
  by_cases h : fl ≤ psum m k f g <;> simp [List.filter_cons, h]
theorem risesOf_mem {m : Sums} {ks : List ByteArray} {f0 f g fl : Int} {r : Rz} (h : r ∈ risesOf m ks f0 f g fl) : r.key ∈ ks ∧ r = ⟨r.key, psum m r.key f g, psum m r.key f0 f⟩ ∧ fl ≤ r.nw := by
  unfold risesOf at h
  obtain ⟨k, hk, rfl⟩ := List.mem_map.1 h
  obtain ⟨h1, h2⟩ := List.mem_filter.1 hk
  exact ⟨h1, rfl, by simpa using h2⟩
theorem risesOf_one {m : Sums} {ks : List ByteArray} {f0 f g fl : Int} : ∀ x ∈ risesOf m ks f0 f g fl, ∀ y ∈ risesOf m ks f0 f g fl, cfZ x y = 0 → x = y := fun x hx y hy e => by
  have h1 := (risesOf_mem hx).2.1
  have h2 := (risesOf_mem hy).2.1
  rw [h1, h2, cfZ_eq e]
theorem cfZ_flip (a b : Rz) : cfZ b a = - cfZ a b := by
  unfold cfZ
  have e1 := cmpI_ok.flip (b.nw * (a.od + 1)) (a.nw * (b.od + 1))
  have e2 := cmpI_ok.flip b.nw a.nw
  have e3 := cmpS_ok.flip a.key b.key
  split <;> split <;> (try split) <;> (try split) <;> omega
theorem sortZ_inOrder {l : List Rz} (h : ∀ r ∈ l, r.ok) : InOrder cfZ (sortBy cfZ l) := by
  obtain ⟨lv, rfl⟩ := lift_ok l h
  rw [sortBy_map (cf := cfV) (fun r : Rv => r.1) (fun _ _ => rfl)]
  exact inOrder_map (sortBy_inOrder cfV_ok lv)
/-- what rises in panes -/
def ofL (m : Sums) (wd sp now fl : Int) : List Rz := sortBy cfZ (risesOf m (keysIn m ((now - now % wd - sp) / wd) ((now - now % wd) / wd)) ((now - now % wd - 2 * sp) / wd) ((now - now % wd - sp) / wd) ((now - now % wd) / wd) fl)
theorem psum_small {w : World} {p : Nat} {wd ad : Int} {b : Nat} {m} (h : PanesAt w p wd ad b m) (k : ByteArray) (f g : Int) : 0 ≤ psum m k f g ∧ psum m k f g ≤ 1099511627776 := by
  have h1 := psum_le h.ok k f g
  have h2 := h.tot
  have h3 := h.a2
  omega
theorem risesOf_ok {w : World} {p : Nat} {wd ad : Int} {b : Nat} {m} (h : PanesAt w p wd ad b m) (ks : List ByteArray) (f0 f g fl : Int) : ∀ r ∈ risesOf m ks f0 f g fl, r.ok := fun r hr => by
  rw [(risesOf_mem hr).2.1]
  have h1 := psum_small h r.key f g
  have h2 := psum_small h r.key f0 f
  exact ⟨h1.1, by show psum m r.key f g ≤ _; omega, h2.1, by show psum m r.key f0 f ≤ _; omega⟩
theorem of_nil (w : World) (sp now fl : Int) : Calls Try.prog 18 #[.pointer none, .int .i64 sp, .int .i64 now, .int .i64 fl] w (RowPost encZ 3 w []) := by
  go_enter Try.func18, Try.ntmps18
  go_wp2_with fail
  refine (rmay_nil _ _ _).mono ?_
  rintro e w1 ⟨rfl, hb⟩
  replace hb := Lib.hid hb
  go_wp2
  go_ret
  exact ⟨_, rfl, .inl ⟨rfl, _, _, rfl, Nat.zero_le _⟩, hb.out⟩
theorem of_no (w : World) (p : Nat) (wd ad : Int) (b : Nat) (m) (sp now fl : Int) (h : PanesAt w p wd ad b m) (hm : mayR wd sp now = false) : Calls Try.prog 18 #[.pointer (some ⟨p, 0, none⟩), .int .i64 sp, .int .i64 now, .int .i64 fl] w (RowPost encZ 3 w []) := by
  have HP := Lib.hid h
  have HM := Lib.hid hm
  clear h hm
  go_enter Try.func18, Try.ntmps18
  go_wp2_with fail
  refine (rmayp_calls _ p wd ad b m sp now HP.out).mono ?_
  rintro e w1 ⟨rfl, hb⟩
  rw [HM.out]
  replace hb := Lib.hid hb
  go_wp2
  go_ret
  exact ⟨_, rfl, .inl ⟨rfl, _, _, rfl, Nat.zero_le _⟩, hb.out⟩
theorem cell_newZ (w : World) (s : ByteArray) (n o : Int) (j : Nat) (u : Value) (h : ([.string s, .int .i64 n, .int .i64 o] : List Value)[j]? = some u) : (w.alloc (.cells #[.string s, .int .i64 n, .int .i64 o] 35)).cell? ((⟨w.heap.size, 0, none⟩ : Addr).add j) = some u := by
  have h0 := blk_cell (blk_new w (.cells #[.string s, .int .i64 n, .int .i64 o] 35 (0, 0))) j
  have e1 : ((⟨w.heap.size, 0, none⟩ : Addr).add j) = ⟨w.heap.size, j, none⟩ := by
    unfold Addr.add; split
    · rename_i hj; rw [hj]
    · simp
  rw [e1, h0]
  simpa using h
set_option maxHeartbeats 4000000 in
theorem of_calls (w : World) (p : Nat) (wd ad : Int) (b : Nat) (m) (sp now fl : Int) (h : PanesAt w p wd ad b m) (hl : m.length ≤ 1048576) (hm : mayR wd sp now = true) :
    Calls Try.prog 18 #[.pointer (some ⟨p, 0, none⟩), .int .i64 sp, .int .i64 now, .int .i64 fl] w (RowPost encZ 3 w (ofL m wd sp now fl)) := by
  have hw1 := h.w1
  have hw2 := h.w2
  have HP := Lib.hid h
  have HM := Lib.hid hm
  simp only [mayR, Bool.and_eq_true, decide_eq_true_eq] at hm
  obtain ⟨⟨⟨⟨s1, s2⟩, _⟩, n1⟩, n2⟩ := hm
  clear h
  have hmod0 : 0 ≤ now % wd := Int.emod_nonneg _ (by omega)
  have hmod1 : now % wd ≤ now := mod_le n1 hw1
  have HB : Hid (Below w.heap.size w w) := Below.refl _ _
  obtain ⟨i0, hi, hz0, hz1, hz2⟩ := info_parts infoRise
  obtain ⟨b0, hb0⟩ : ∃ x, x = now - now % wd := ⟨_, rfl⟩
  obtain ⟨f, hf⟩ : ∃ f, f = (now - now % wd - sp) / wd := ⟨_, rfl⟩
  obtain ⟨g, hg⟩ : ∃ g, g = (now - now % wd) / wd := ⟨_, rfl⟩
  obtain ⟨f0, hf0⟩ : ∃ f0, f0 = (now - now % wd - 2 * sp) / wd := ⟨_, rfl⟩
  obtain ⟨L, hL⟩ : ∃ L, L = ofL m wd sp now fl := ⟨_, rfl⟩
  rw [← hL]
  have HLL : Hid (L = sortBy cfZ (risesOf m (keysIn m f g) f0 f g fl)) := by rw [hL, hf, hg, hf0]; rfl
  have HFG : Hid (f = (now - now % wd - sp) / wd ∧ g = (now - now % wd) / wd ∧ f0 = (now - now % wd - 2 * sp) / wd) := ⟨hf, hg, hf0⟩
  clear hf hg hf0 hL hb0
  go_enter Try.func18, Try.ntmps18
  go_wp2_with fail
  refine (rmayp_calls _ p wd ad b m sp now HP.out).mono ?_
  rintro e w1 ⟨rfl, hb⟩
  rw [HM.out]
  replace HP := Lib.hid (HP.out.below hb)
  replace HB := Lib.hid (HB.out.trans ((show Below _ _ _ from hb).mono HB.out.size))
  clear hb
  go_wp2_with fail
  refine (width_calls _ _ wd _ b _ HP.out).mono ?_
  rintro e w1 ⟨rfl, rfl⟩
  go_wp2_with fail
  refine ((keys_calls _ p wd ad b m (now - now % wd - sp) (now - now % wd) HP.out (by omega) (by omega) (by omega) (by omega) hl).mono fun _ _ h => keysP_of h).mono ?_
  rintro e' w2 ⟨v, ks, rfl, hpm, hrow, hb⟩
  replace HP := Lib.hid (HP.out.below hb)
  replace HB := Lib.hid (HB.out.trans ((show Below _ _ _ from hb).mono HB.out.size))
  rw [← HFG.out.1, ← HFG.out.2.1] at hpm
  have HPM := Lib.hid hpm
  have HRW := Lib.hid hrow
  have hkl : ks.length ≤ 1048576 := by rw [hpm.length_eq]; exact Nat.le_trans (keysIn_len _ _ _) hl
  clear hb hpm hrow
  obtain ⟨so, scap, rfl, hmx⟩ := SliceR.shape HRW.out
  go_wp2
  go_loopg [10, 32] ks.length (fun md v i wr => ∃ (k n : Nat) (o : Option Addr) (cp : Nat), k + md = ks.length ∧ i = .int .i64 k ∧ v = .slice o n cp ∧ n ≤ k ∧ Hid (wr.ownsRow w2.heap.size 35 3 (.slice o n cp) n ((risesOf m (ks.take k) f0 f g fl).flatMap encZ)) ∧ Hid (Below w2.heap.size w2 wr))
  case atStart => exact ⟨0, 0, _, _, by omega, rfl, rfl, Nat.le_refl _, Lib.hid (by simpa [risesOf] using World.ownsRow_nil _ _ _ _), Below.refl _ _⟩
  case round =>
    obtain ⟨k, n, so', sc', hkm, rfl, rfl, hnk, HW, HB2⟩ := hrel
    by_cases hkn : k < ks.length
    · obtain ⟨rb, ro, rcap, heq, hblt, hcell⟩ := CK.RowK.cell (HRW.out.below HB2.out) hkn
      cases heq
      have e0 := (hcell 0 (by omega)).trans rfl
      simp only [Nat.mul_one, Nat.add_zero] at e0
      obtain ⟨key, hkey⟩ : ∃ key, key = ks[k] := ⟨_, rfl⟩
      have HTK : Hid (risesOf m (ks.take (k + 1)) f0 f g fl = risesOf m (ks.take k) f0 f g fl ++ if fl ≤ psum m key f g then [⟨key, psum m key f g, psum m key f0 f⟩] else []) := by
        rw [hkey, ← risesOf_snoc, List.take_succ_eq_append_getElem hkn]; exact rfl
      have e0' : wr.cell? ⟨rb, ro + k, none⟩ = some (.string key) := by rw [hkey]; exact e0
      have HPr := Lib.hid (HP.out.below HB2.out)
      clear hcell e0 hkey
      go_wp2_with fail
      refine (sum_calls _ p wd ad b m key (now - now % wd - sp) (now - now % wd) HPr.out (by omega) (by omega) (by omega) (by omega)).mono ?_
      rintro e' w3 ⟨rfl, hb⟩
      rw [← HFG.out.1, ← HFG.out.2.1]
      replace HPr := Lib.hid (HPr.out.below hb)
      have HW3 : Hid (w3.ownsRow w2.heap.size 35 3 (.slice so' n sc') n ((risesOf m (ks.take k) f0 f g fl).flatMap encZ)) := ownsRow_same HW.out fun j _ hj => hb.block j hj
      have HB3 := Lib.hid (HB2.out.trans (hb.mono HB2.out.size))
      have hNb := psum_small HPr.out key f g
      obtain ⟨N, hN⟩ : ∃ N, N = psum m key f g := ⟨_, rfl⟩
      rw [← hN] at hNb
      rw [← hN]
      rw [← hN] at HTK
      clear hb e0' hN
      by_cases hfl : fl ≤ N
      · have d1 : decide (fl ≤ N) = true := by simpa using hfl
        go_wp2_with fail
        refine (sum_calls _ p wd ad b m key (now - now % wd - 2 * sp) (now - now % wd - sp) HPr.out (by omega) (by omega) (by omega) (by omega)).mono ?_
        rintro e' w4 ⟨rfl, hb⟩
        rw [← HFG.out.1, ← HFG.out.2.2]
        have HW4 : Hid (w4.ownsRow w2.heap.size 35 3 (.slice so' n sc') n ((risesOf m (ks.take k) f0 f g fl).flatMap encZ)) := ownsRow_same HW3.out fun j _ hj => hb.block j hj
        have HB4 := Lib.hid (HB3.out.trans (hb.mono HB3.out.size))
        have hbase : w2.heap.size ≤ w4.heap.size := HB4.out.size
        obtain ⟨D, hD⟩ : ∃ D, D = psum m key f0 f := ⟨_, rfl⟩
        rw [← hD]
        rw [← hD, if_pos hfl] at HTK
        clear hb hD
        go_wp2_with (at_builtin; refine wpList_append_own _ rfl _ _ 32 rfl w2.heap.size 35 i0 (.agg #[.string ⟨#[]⟩, .int .i64 0, .int .i64 0]) 3 32 Try.underlying32 hi hz0 hz1 hz2 rfl (by decide) _ _ _ rfl (HW4.out.alloc _) ⟨w4.heap.size, 0, none⟩ 1 1 [.string key, .int .i64 N, .int .i64 D] rfl rfl ?c1 ?c2 ?c3 ?c4 ?c5 ?_)
        case c1 => exact cell_newZ _ _ _ _
        case c2 => exact fun x hx => by simp at hx; rcases hx with rfl | rfl | rfl <;> rfl
        case c3 => unfold maxLen; omega
        case c4 => omega
        case c5 => simp; omega
        intro v' w5 hown' hgrow _
        have hb5 : Below w2.heap.size w4 w5 := below_append HW4.out hbase hgrow
        have HO := Lib.hid hown'
        have HB5 := Lib.hid (HB4.out.trans hb5)
        clear hown' hgrow hb5
        obtain ⟨so2, sc2, rfl⟩ := ownsRow_shape HO.out
        go_wp2
        go_roundg (ks.length - (k + 1))
        case measure => omega
        case rel =>
          refine ⟨k + 1, n + 1, _, _, by omega, by go_num, rfl, by omega, ?_, HB5⟩
          show World.ownsRow _ _ _ _ _ _ _
          have := HO.out
          rw [HTK.out, List.flatMap_append]
          exact this
      · have d1 : decide (fl ≤ N) = false := by simpa using hfl
        rw [if_neg hfl, List.append_nil] at HTK
        go_wp2
        go_roundg (ks.length - (k + 1))
        case measure => omega
        case rel =>
          refine ⟨k + 1, n, _, _, by omega, by go_num, rfl, by omega, ?_, HB3⟩
          show World.ownsRow _ _ _ _ _ _ _
          rw [HTK.out]
          exact HW3.out
    · obtain rfl : k = ks.length := by omega
      obtain ⟨rs, hrs⟩ : ∃ rs, rs = risesOf m ks f0 f g fl := ⟨_, rfl⟩
      have HO : Hid (wr.ownsRow w2.heap.size 35 3 (.slice so' n sc') rs.length (rs.flatMap encZ)) := by
        have h0 := HW.out
        rw [List.take_length, ← hrs] at h0
        have : n = rs.length := by
          have h1 := h0.1
          rw [CK.flat_len encZ_len] at h1
          omega
        rw [← this]; exact h0
      have hrl : rs.length < 4611686018427387904 := by
        rw [hrs, risesOf, List.length_map]
        have := List.length_filter_le (fun k => decide (fl ≤ psum m k f g)) ks
        omega
      have HOK : Hid (∀ r ∈ rs, r.ok) := by rw [hrs]; exact risesOf_ok HP.out _ _ _ _ _
      have fin : ∀ l', l'.Perm rs → InOrder cfZ l' → l' = L := fun l' hp ho => by
        have hp2 : l'.Perm (sortBy cfZ (risesOf m (keysIn m f g) f0 f g fl)) := by
          rw [hrs] at hp
          exact (hp.trans (risesOf_perm HPM.out _ _ _ _)).trans (sortBy_perm _).symm
        rw [HLL.out]
        refine inOrder_flip cfZ_flip hp2 ho (sortZ_inOrder (risesOf_ok HP.out _ _ _ _ _)) fun x hx y hy => risesOf_one (m := m) (ks := ks) (f0 := f0) (f := f) (g := g) (fl := fl) x ?_ y ?_
        · rw [← hrs]; exact hp.mem_iff.1 hx
        · rw [← hrs]; exact hp.mem_iff.1 hy
      have HF := Lib.hid fin
      have HBw := Lib.hid (HB.out.trans (HB2.out.mono HB.out.size))
      have HS2 : Hid (w2.heap.size ≤ wr.heap.size) := HB2.out.size
      clear fin hrs
      go_wp2_with fail
      refine (sortRise_calls wr w2.heap.size rs _ HS2.out HO.out hrl HOK.out).mono ?_
      rintro e' w6 ⟨rfl, l', hp, ho, hr, hb⟩
      rw [HF.out l' hp ho] at hr
      have HR := Lib.hid hr
      have HB6 := Lib.hid (HB.out.trans ((show Below _ _ _ from HB2.out.trans hb).mono HB.out.size))
      clear hp ho hr hb
      go_wp2
      go_ret
      exact ⟨_, rfl, HR.out, HB6.out⟩
end Go.Proofs.Ytmddlbgdmdepdaa
