/- The law's awake of layer 19, by a walk. No condition. -/
import Derived.Test.YtmddlbgdmdepdaaRiR
set_option linter.unusedVariables false
set_option linter.unusedSimpArgs false
set_option maxRecDepth 100000
namespace Go.Proofs.Ytmddlbgdmdepdaa
open Go.Maps Go.MapKept Go.RowKit Go.ChangeMaps Go.Shelf CK Go.Proofs.YtmddlbgdmdepdaaW.PrintLast

def strA : ByteArray := ⟨#[97]⟩
def awakeM : Sums := addTo (addTo (addTo [] ⟨#[97]⟩ (0 / 10) 1) ⟨#[97]⟩ (10 / 10) 4) ⟨#[97]⟩ (20 / 10) 9
theorem awake_of : ofL awakeM 10 10 25 1 = [⟨⟨#[97]⟩, 4, 1⟩] := by decide +kernel
set_option maxHeartbeats 2000000 in
theorem awake19_calls (w : World) : Calls Try.prog 33 #[] w (BoolPost w true) := by
  go_enter Try.func33, Try.ntmps33
  go_wp2_with fail
  refine (new_calls _ _).mono ?_
  rintro e w1 ⟨p, b, rfl, hp, h1, h2, hb⟩
  rw [show min (max (10 : Int) 1) 1099511627776 = 10 from by decide] at hp
  have HP := Lib.hid hp
  have HB := Lib.hid hb
  have HGE : Hid (w.heap.size ≤ p ∧ w.heap.size ≤ b) := ⟨h1, h2⟩
  clear hp h1 h2 hb
  go_wp2_with fail
  refine (add_calls _ p 10 _ b _ _ _ _ HP.out (by decide)).mono ?_
  rintro e w2 ⟨rfl, hfr, hpa⟩
  rw [show takes 0 ⟨#[97]⟩ 0 1 = true from by decide, if_pos rfl, if_pos rfl] at hpa
  rw [show takes 0 ⟨#[97]⟩ 0 1 = true from by decide]
  replace HP := Lib.hid hpa
  replace HB := Lib.hid (HB.out.trans (hfr.below HB.out.size (by have := HGE.out; simp; omega)))
  clear hpa hfr
  go_wp2_with fail
  refine (add_calls _ p 10 _ b _ _ _ _ HP.out (by decide)).mono ?_
  rintro e w3 ⟨rfl, hfr, hpa⟩
  rw [show takes (0 + 1) ⟨#[97]⟩ 10 4 = true from by decide, if_pos rfl, if_pos rfl] at hpa
  rw [show takes (0 + 1) ⟨#[97]⟩ 10 4 = true from by decide]
  replace HP := Lib.hid hpa
  replace HB := Lib.hid (HB.out.trans (hfr.below HB.out.size (by have := HGE.out; simp; omega)))
  clear hpa hfr
  go_wp2_with fail
  refine (add_calls _ p 10 _ b _ _ _ _ HP.out (by decide)).mono ?_
  rintro e w4 ⟨rfl, hfr, hpa⟩
  rw [show takes (0 + 1 + 1) ⟨#[97]⟩ 20 9 = true from by decide, if_pos rfl, if_pos rfl] at hpa
  rw [show takes (0 + 1 + 1) ⟨#[97]⟩ 20 9 = true from by decide]
  replace HP : Hid (PanesAt w4 p 10 (0 + 1 + 1 + 1) b awakeM) := hpa
  replace HB := Lib.hid (HB.out.trans (hfr.below HB.out.size (by have := HGE.out; simp; omega)))
  clear hpa hfr
  go_wp2_with fail
  refine (of_calls _ p 10 _ b awakeM 10 25 1 HP.out (by decide +kernel) (by decide)).mono ?_
  rintro e w5 ⟨v, rfl, hr, hb⟩
  rw [awake_of] at hr
  obtain ⟨g, o, cap, hv, hg, hc⟩ := CK.RowK.cell hr (i := 0) (by simp)
  subst hv
  have a0 : w5.cell? ⟨g, o, none⟩ = some (.string ⟨#[97]⟩) := by simpa [encZ] using hc 0 (by omega)
  have a1 : w5.cell? ⟨g, o + 1, none⟩ = some (.int .i64 4) := by simpa [encZ] using hc 1 (by omega)
  have a2 : w5.cell? ⟨g, o + 2, none⟩ = some (.int .i64 1) := by simpa [encZ] using hc 2 (by omega)
  replace HB := Lib.hid (HB.out.trans ((show Below _ _ _ from hb).mono HB.out.size))
  clear hr hb hc HP HGE
  go_wp2_with fail
  refine (ratio_calls _ 4 1 _ (by decide) (by decide) (by decide) (by decide)).mono ?_
  rintro e w6 ⟨rfl, hg6⟩
  replace HB := Lib.hid (HB.out.trans (hg6.below.mono HB.out.size))
  clear hg6
  go_wp2
  go_ret
  exact ⟨rfl, HB.out⟩
end Go.Proofs.Ytmddlbgdmdepdaa
