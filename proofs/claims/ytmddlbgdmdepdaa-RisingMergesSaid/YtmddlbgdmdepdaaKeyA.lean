/- A map of strings as the shelf's reading of it. No condition. -/
import Derived.Test.YtmddlbgdmdepdaaPaneC
import Derived.Maps.Own
import Derived.Maps.OwnSet
import Derived.Sort.KeysCollected
import Derived.StringKeys
set_option linter.unusedVariables false
set_option linter.unusedSimpArgs false
set_option maxRecDepth 100000
namespace Go.Proofs.Ytmddlbgdmdepdaa.CK
open Go.Maps Go.MapKept Go.RowKit Go.ChangeMaps

theorem MapT.ownsStr {β : Type} {P : Program} {k : TypeId} {ev : β → Value} {w : World} {b : Nat} {m : List (ByteArray × β)} (hk : P.underlying k = some .string) (h : MapT P k Value.string ev w b m) (hl : m.length ≤ maxLen) :
    ∃ (nn : Nat) (D0 : DataW Unit), w.ownsMap P k (fun _ => some (.lit (.bool true), [])) b nn D0 ∧ (strKeys D0).Perm (m.map fun p => p.1.data.toList) ∧ Maps.size D0 = m.length := by
  obtain ⟨es, c, h1, h2, h3, h4⟩ := h
  have hlen : es.size = m.length := by
    have := congrArg List.length h3
    simpa [prs] using this
  have hkey : ∀ x ∈ es.toList, ∃ s : ByteArray, x.key = .string s ∧ keyOf P k x.key = some (.string s.data.toList) := fun x hx => by
    have hm : (x.key, x.val) ∈ prs es := List.mem_map.2 ⟨x, hx, rfl⟩
    rw [h3] at hm
    obtain ⟨p, hp, he⟩ := List.mem_map.1 hm
    obtain ⟨l, hl⟩ := h4 p hp
    have e1 : x.key = .string p.1 := (congrArg Prod.fst he).symm
    refine ⟨p.1, e1, ?_⟩
    rw [e1]
    have hl' := hl
    rw [keyOf_string hk] at hl'
    by_cases hs : p.1.size ≤ maxLen
    · exact WideMaps.keyOf_string_mk hk hs
    · simp [mapKey, hk, hs] at hl'
  have hrd : ∀ x ∈ es.toList, ∃ s : ByteArray, x.key = .string s ∧ WideElems.rd (H := Unit) P k (fun _ => some (.lit (.bool true), [])) x = some (.string s.data.toList, .lit (.bool true)) := fun x hx => by
    obtain ⟨s, e1, e2⟩ := hkey x hx
    exact ⟨s, e1, by simp [WideElems.rd, e2]⟩
  have F : WideElems.Fit (H := Unit) P k (fun _ => some (.lit (.bool true), [])) es c := ⟨by omega, h2, fun x hx => by obtain ⟨s, _, e⟩ := hrd x hx; exact ⟨_, e⟩⟩
  refine ⟨es.size, _, ⟨es, c, h1, F, Nat.le_refl _, rfl⟩, ?_, ?_⟩
  · have hp := (WideShapes.sorted_perm (es.toList.map (WideElems.rg (H := Unit) P k (fun _ => some (.lit (.bool true), []))))).map fun p => strOf p.1
    refine hp.trans (List.Perm.of_eq ?_)
    rw [List.map_map]
    have e3 : m.map (fun p => p.1.data.toList) = (prs es).map (fun q => match q.1 with | .string s => s.data.toList | _ => []) := by
      rw [h3, List.map_map]; rfl
    rw [e3, prs, List.map_map]
    refine List.map_congr_left fun x hx => ?_
    obtain ⟨s, e1, e2⟩ := hrd x hx
    simp [WideElems.rg, e2, e1, strOf]
  · show ((es.toList.map _).foldr DataW.insert []).length = _
    rw [(WideShapes.sorted_perm _).length_eq, List.length_map, Array.length_toList, hlen]
end Go.Proofs.Ytmddlbgdmdepdaa.CK
