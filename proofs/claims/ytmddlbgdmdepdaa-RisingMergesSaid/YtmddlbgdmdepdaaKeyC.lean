/- The contract of pane.Keys, by a walk. No condition. -/
import Derived.Test.YtmddlbgdmdepdaaKeyB
import Derived.Test.YtmddlbgdmdepdaaShelf
import Derived.CallsIn
set_option linter.unusedVariables false
set_option linter.unusedSimpArgs false
set_option maxRecDepth 100000
namespace Go.Proofs.Ytmddlbgdmdepdaa
open Go.Maps Go.MapKept Go.RowKit Go.ChangeMaps Go.Sort Go.Shelf CK

theorem sortsL (m : Nat) : AnyZ.SortsIn Try.prog Try.sortedL_ren Fence.wide m :=
  ⟨fun blk off cap ss W hH hblk hsz => callsIn_wide.2 (AnyM.slices_Sort_string Try.sortL blk off cap ss W hH hblk hsz),
   fun p cap W => callsIn_wide.2 (AnyM.slices_Sort_string_none Try.sortL p cap W)⟩
/-- maps.Keys -/
theorem mkeys_calls (mb : Option Nat) (W : World) : Calls Try.prog 67 #[.map mb] W fun e w' => e = .returned (.func (.func 89) #[] #[.pointer (some ⟨W.heap.size, 0, none⟩)]) ∧ w' = W.alloc (.cells #[.map mb] 58) :=
  (callsIn_wide (n := 5)).1 (AnyZ.keys_in Try.keysL Fence.wide 5 trivial rfl mb W)
set_option maxHeartbeats 1000000 in
/-- slices.Sorted at what maps.Keys handed back -/
theorem sorted_calls {H : Type} (b nn : Nat) (D0 : DataW H) (R : Value → Option (DataW H × List MemPlace)) (w : World) (hown : w.ownsMap Try.prog 9 R b nn D0) (hmax : Maps.size D0 ≤ maxLen) (hbytes : Maps.size D0 * 16 ≤ 140737488355328) :
    Calls Try.prog 66 #[.func (.func 89) #[] #[.pointer (some ⟨w.heap.size, 0, none⟩)]] (w.alloc (.cells #[.map (some b)] 58)) fun e w' => ∃ (v : Value) (ss : List (List UInt8)), e = .returned v ∧ ss.Perm (strKeys D0) ∧
      w'.ownsRow (w.alloc (.cells #[.map (some b)] 58)).heap.size 9 1 v ss.length ((ss.mergeSort (fun x y => decide (x ≤ y))).map encStr) ∧ (v = .slice none 0 0 ↔ ss = []) ∧ Below (w.alloc (.cells #[.map (some b)] 58)).heap.size (w.alloc (.cells #[.map (some b)] 58)) w' := by
  have hbl := hown.lt
  have hseq : SeqGives Fence.wide 2 Try.prog 89 #[.pointer (some ⟨w.heap.size, 0, none⟩)] encStr (fun ss => ss.Perm (strKeys D0)) (Maps.size D0) (w.alloc (.cells #[.map (some b)] 58)) :=
    AnyZ.keys_gives (ρ := Try.keysL_ren) { Try.keysL with } Fence.wide _ trivial rfl (by omega) w.heap.size b nn D0 _ (by simp) (by simp) (by
      obtain ⟨es, clock, hb, Ft, hs, hD⟩ := hown
      exact ⟨es, clock, (Below.heap_alloc _ _ b hbl).trans hb, Ft, hs, hD⟩)
  exact (callsIn_wide (n := 5)).1 (AnyZ.sorted_in Try.sortedL Fence.wide 5 trivial trivial trivial trivial rfl (by omega) (sortsL _) (enters_of Try.func88 (by kernel_rfl) rfl) 89 #[.pointer (some ⟨w.heap.size, 0, none⟩)] trivial (enters_of Try.func89 (by kernel_rfl) rfl) _ _ hmax hbytes _ hseq)

/-- it hands back a row of texts, rising -/
def KeysPost (w : World) (ks : List ByteArray) (e : Ending) (w' : World) : Prop := ∃ (v : Value) (ss : List (List UInt8)), e = .returned v ∧ ss.Perm (ks.map fun s => s.data.toList) ∧ w'.ownsRow w.heap.size 9 1 v ss.length ((ss.mergeSort (fun x y => decide (x ≤ y))).map encStr) ∧ Below w.heap.size w w'
set_option maxHeartbeats 1000000 in
theorem keys_calls (w : World) (p : Nat) (wd ad : Int) (b : Nat) (m) (f e : Int) (h : PanesAt w p wd ad b m)
    (f1 : -9223372036854775808 ≤ f) (f2 : f ≤ 9223372036854775807) (e1 : -9223372036854775808 ≤ e) (e2 : e ≤ 9223372036854775807) (hm : m.length ≤ 1048576) :
    Calls Try.prog 43 #[.pointer (some ⟨p, 0, none⟩), .int .i64 f, .int .i64 e] w (KeysPost w (keysIn m (f / wd) (e / wd))) := by
  have c0 := h.c0
  have c2 := h.c2
  have hw1 := h.w1
  have hw2 := h.w2
  have HP := Lib.hid h
  have hmap := h.map
  have hpl := blk_lt h.blk
  have hmap2 : MapT Try.prog 82 ekCell (Value.int .i64) (w.alloc (.map #[] 0)) b m := hmap.alloc _
  clear h
  have hmm := @run_makeMap Try.prog
  go_enter Try.func43, Try.ntmps43
  go_wp2_with (first
    | (go_at_call 41; refine (pane_calls _ _ _ _ c0 hw1 hw2 (by assumption) (by assumption)).mono ?_; rintro e w' ⟨rfl, rfl⟩)
    | (at_range; refine wpList_rangeT _ rfl _ _ rfl _ _ Try.underlying77 ekCell (Value.int .i64) b m rfl hmap2 ?_; intro w0 hit hb0 hs0))
  go_frame
  clear hmm
  generalize hF : f / wd = fd at *
  generalize hE : e / wd = ed at *
  clear hF hE
  have HB := Lib.hid (((Below.refl _ w).alloc (Nat.le_refl _) (.map #[] 0)).trans (hb0.mono (by simp)))
  have HS0 : Hid (MapT Try.prog 9 Value.string Value.bool w0 w.heap.size (([] : List ByteArray).map fun x => (x, true))) := (MapT_made Try.prog 9 Value.string Value.bool w).below hb0 (by simp)
  clear hb0 hmap hmap2
  obtain ⟨r, hr⟩ : ∃ r, r = (w.alloc (.map #[] 0)).heap.size := ⟨_, rfl⟩
  rw [← hr] at hit
  rw [← hr]
  have HR : Hid (r = w.heap.size + 1) := by rw [hr]; simp [Hid]
  clear hr hs0
  go_loopg [] m.length (fun k wr => ∃ vis left, k = left.length ∧ IterT Try.prog 82 ekCell (Value.int .i64) wr r b m vis left ∧ Hid (MapT Try.prog 9 Value.string Value.bool wr w.heap.size ((keysIn vis fd ed).map fun x => (x, true))) ∧ Hid (Below w.heap.size w wr))
  case atStart => exact ⟨[], m, rfl, hit, HS0, HB⟩
  case round =>
    obtain ⟨vis, left, rfl, hit, HS, HB⟩ := hrel
    go_wp2_with (at_next; refine wpList_nextT _ rfl _ rfl _ ekCell (Value.int .i64) r b m vis left rfl hit ?_ ?_)
    · intro hl
      have HL := Lib.hid hl
      have HI := Lib.hid hit
      clear hl hit
      have hvl : vis.Perm m := by
        have := HI.out.perm
        rw [HL.out, List.append_nil] at this
        exact this
      have hkl : (keysIn vis fd ed).length ≤ m.length := by rw [← hvl.length_eq]; exact keysIn_len _ _ _
      have hml : ((keysIn vis fd ed).map fun x => (x, true)).length ≤ maxLen := by rw [List.length_map]; unfold maxLen; omega
      obtain ⟨nn, D0, ho1, ho2, ho3⟩ := MapT.ownsStr Try.underlying9 HS.out hml
      rw [List.map_map] at ho2
      have hsz : Maps.size D0 * 16 ≤ 140737488355328 := by rw [ho3, List.length_map]; omega
      have hsz' : Maps.size D0 ≤ maxLen := by rw [ho3]; exact hml
      have HO := Lib.hid ho1
      have HO2 := Lib.hid (ho2.trans ((keysIn_perm hvl fd ed).map _))
      clear ho1 ho2 ho3 hml hvl hkl
      go_wp2_with fail
      refine (mkeys_calls _ _).mono ?_
      rintro e' w1 ⟨rfl, rfl⟩
      go_wp2_with fail
      refine (sorted_calls _ nn D0 _ wr HO.out hsz' hsz).mono ?_
      rintro e' w2 ⟨v, ss, rfl, hp, hrow, _, hb⟩
      have HRW := Lib.hid hrow
      have HPM := Lib.hid hp
      have HB2 := Lib.hid hb
      clear hrow hp hb
      go_wp2
      go_ret
      exact ⟨v, ss, rfl, HPM.out.trans HO2.out, ownsRow_lower HRW.out (by have := HB.out.size; simp; omega), (HB.out.alloc HB.out.size _).trans (HB2.out.mono (by have := HB.out.size; simp; omega))⟩
    · intro s pn n r1 r2 w' hl hit' hfr hsz hen
      have hen' := hen w' rfl rfl
      have HL := Lib.hid hl
      have HI := Lib.hid hit
      have HI' := Lib.hid hit'
      have HFr := Lib.hid hfr
      unfold ekCell at hen'
      have hs24 : s.size ≤ 24 := (HP.out.ok ((s, pn), n) (HI'.out.perm.mem_iff.1 (by simp))).1
      have hgd := strGood s (by unfold maxLen; omega)
      have HGD := Lib.hid hgd
      have hbw : RowKit.Below w.heap.size w w' := HB.out.trans (HFr.out.below HB.out.size (by simp; have := HR.out; omega))
      have HBw := Lib.hid hbw
      have HSw : Hid (MapT Try.prog 9 Value.string Value.bool (w'.alloc (.cells #[.string s, .int .i64 pn] 82)) w.heap.size ((keysIn vis fd ed).map fun x => (x, true))) := (HS.out.fr HFr.out (by simp; have := HR.out; omega)).alloc _
      have HKS := Lib.hid (keysIn_snoc vis ((s, pn), n) fd ed)
      have HIa : Hid (IterT Try.prog 82 ekCell (Value.int .i64) (w'.alloc (.cells #[.string s, .int .i64 pn] 82)) r b m (vis ++ [((s, pn), n)]) (r1 ++ r2)) := HI'.out.same (Below.heap_alloc _ _ _ HI'.out.lt.2.1) (Below.heap_alloc _ _ _ HI'.out.lt.1)
      have HBa : Hid (RowKit.Below w.heap.size w (w'.alloc (.cells #[.string s, .int .i64 pn] 82))) := hbw.alloc hbw.size _
      clear hl hit hit' hfr hsz hen hgd hbw hs24
      by_cases hc1 : fd ≤ pn
      · by_cases hc2 : pn < ed
        · have HC : Hid (fd ≤ pn ∧ pn < ed) := ⟨hc1, hc2⟩
          go_wp2_with (at_mapUpdate; refine wpList_updT _ rfl _ _ _ _ rfl _ _ strKeyed Try.underlying58 Value.string Value.bool str_inj w.heap.size _ rfl HSw.out s rfl HGD.out true rfl ?_; intro w9 hS9 hfr9 hsz9)
          rw [put_seen] at hS9
          have HS9 := Lib.hid hS9
          have HF9 := Lib.hid hfr9
          clear hS9 hfr9 hsz9
          go_wp2
          go_roundg (r1 ++ r2).length
          case measure => rw [HL.out]; simp; try omega
          case rel =>
            refine ⟨vis ++ [((s, pn), n)], r1 ++ r2, rfl, HIa.out.fr HF9.out (by simp; have := HP.out.map.lt; omega) (by simp; have := HR.out; omega), ?_, HBa.out.trans (HF9.out.below HBa.out.size (by simp))⟩
            show MapT _ _ _ _ _ _ _
            rw [HKS.out, if_pos HC.out]
            exact HS9.out
        · have HC : Hid (¬ (fd ≤ pn ∧ pn < ed)) := fun h => hc2 h.2
          have hd2 : decide (pn < ed) = false := by simpa using hc2
          go_wp2
          go_roundg (r1 ++ r2).length
          case measure => rw [HL.out]; simp; try omega
          case rel =>
            refine ⟨vis ++ [((s, pn), n)], r1 ++ r2, rfl, HIa.out, ?_, HBa.out⟩
            show MapT _ _ _ _ _ _ _
            rw [HKS.out, if_neg HC.out]
            exact HSw.out
      · have HC : Hid (¬ (fd ≤ pn ∧ pn < ed)) := fun h => hc1 h.1
        go_wp2
        go_roundg (r1 ++ r2).length
        case measure => rw [HL.out]; simp; try omega
        case rel =>
          refine ⟨vis ++ [((s, pn), n)], r1 ++ r2, rfl, HIa.out, ?_, HBa.out⟩
          show MapT _ _ _ _ _ _ _
          rw [HKS.out, if_neg HC.out]
          exact HSw.out
end Go.Proofs.Ytmddlbgdmdepdaa
