/-
  No cell of these rows narrows 'for every input' (looked for: loops, veiled, ifaces, maps, wideKeys, modest, calm, conditions, laid).
  DERIVED. THE GIVEN ROWS OF THIS SEAT. 7 by the template 'for every input the law returns true; each argument reads behind the call as it read before'; 0 by the template 'total and deterministic' (their statements: YtgmbbjkkmgooiaaTotals.lean).
  GIVEN WITH THE SEED: the statements are not yours to turn. If you find one false, say at which input.
  Laid BY PROGRAM, IN A SANDBOX (cutbox-rows.mjs): the forced cells as the released guide's own fill.sh prints them over the translation 717f3aa72114fab6… (all of the seat's roots in one cut). By AI agents, Wed Nov 11 2026. No macro, syntax, notation, axiom, sorry.
-/
import Derived.Test.YtgmbbjkkmgooiaaChecked
import GoSem.Claim
import GoSem.ClaimJoined
import GoSem.ClaimMapViews
import Derived.JoinedTies
import Derived.KernelRfl
namespace Go.Proofs.Ytgmbbjkkmgooiaa
/- THE CELL 'sum', in the pinned program and in every row, IS THE sha256 OF THE DUMP (.gsa) THAT YtgmbbjkkmgooiaaProg.lean LOADS. Nothing in Lean hashes anything: it is a label: what it is worth is what the hold of that sum in a sandbox is worth. -/
noncomputable def Try.pinned : Pinned := { name := "ytgmbbjkkmgooiaa", sum := "717f3aa72114fab6e0bf628c61051b951fc64077af11351b7790e0185c45f15d", checked := Try.checked }
namespace Rows
def none {H : Type} : Left H := { results := [], args := [] }

/-- 'ciceronelaw10.WindowHolds': WHATEVER THE INPUT: true; the input reads as it did. -/
def windowHoldsSpec : ChangeSpec := { name := "windowHolds", fn := fun _ => fun
  | [d1, d2] => { results := [.lit (.bool true)], args := [d1, d2] }
  | _ => none }
def windowHoldsRow : OpenClaim := { program := "ytgmbbjkkmgooiaa", sum := "717f3aa72114fab6e0bf628c61051b951fc64077af11351b7790e0185c45f15d", func := "cicerone/ciceronelaw10.WindowHolds", spec := "windowHolds", unfollowed := true, recurses := true, plainKeys := false, apart := false }
def WindowHoldsSaid : Prop := windowHoldsRow.holds Try.pinned (OpenSpec.ofChange windowHoldsSpec)

/-- ITS FALSE NEIGHBOUR: 'it returns false'. Refute it at one input. -/
def windowHoldsWrong : ChangeSpec := { name := "windowHolds", fn := fun _ => fun
  | [d1, d2] => { results := [.lit (.bool false)], args := [d1, d2] }
  | _ => none }
def WindowHoldsWrongFalsely : Prop := windowHoldsRow.holds Try.pinned (OpenSpec.ofChange windowHoldsWrong)

/-- 'ciceronelaw10.WindowMays': WHATEVER THE INPUT: true; the input reads as it did. -/
def windowMaysSpec : ChangeSpec := { name := "windowMays", fn := fun _ => fun
  | [d1, d2, d3, d4] => { results := [.lit (.bool true)], args := [d1, d2, d3, d4] }
  | _ => none }
def windowMaysRow : OpenClaim := { program := "ytgmbbjkkmgooiaa", sum := "717f3aa72114fab6e0bf628c61051b951fc64077af11351b7790e0185c45f15d", func := "cicerone/ciceronelaw10.WindowMays", spec := "windowMays", unfollowed := true, recurses := true, plainKeys := false, apart := false }
def WindowMaysSaid : Prop := windowMaysRow.holds Try.pinned (OpenSpec.ofChange windowMaysSpec)

/-- ITS FALSE NEIGHBOUR: 'it returns false'. Refute it at one input. -/
def windowMaysWrong : ChangeSpec := { name := "windowMays", fn := fun _ => fun
  | [d1, d2, d3, d4] => { results := [.lit (.bool false)], args := [d1, d2, d3, d4] }
  | _ => none }
def WindowMaysWrongFalsely : Prop := windowMaysRow.holds Try.pinned (OpenSpec.ofChange windowMaysWrong)

/-- 'ciceronelaw10.WindowAts': WHATEVER THE INPUT: true; the input reads as it did. -/
def windowAtsSpec : ChangeSpec := { name := "windowAts", fn := fun _ => fun
  | [d1, d2, d3, d4, d5] => { results := [.lit (.bool true)], args := [d1, d2, d3, d4, d5] }
  | _ => none }
def windowAtsRow : OpenClaim := { program := "ytgmbbjkkmgooiaa", sum := "717f3aa72114fab6e0bf628c61051b951fc64077af11351b7790e0185c45f15d", func := "cicerone/ciceronelaw10.WindowAts", spec := "windowAts", unfollowed := true, recurses := true, plainKeys := false, apart := false }
def WindowAtsSaid : Prop := windowAtsRow.holds Try.pinned (OpenSpec.ofChange windowAtsSpec)

/-- ITS FALSE NEIGHBOUR: 'it returns false'. Refute it at one input. -/
def windowAtsWrong : ChangeSpec := { name := "windowAts", fn := fun _ => fun
  | [d1, d2, d3, d4, d5] => { results := [.lit (.bool false)], args := [d1, d2, d3, d4, d5] }
  | _ => none }
def WindowAtsWrongFalsely : Prop := windowAtsRow.holds Try.pinned (OpenSpec.ofChange windowAtsWrong)

/-- 'ciceronelaw10.WindowSlides': WHATEVER THE INPUT: true; the input reads as it did. -/
def windowSlidesSpec : ChangeSpec := { name := "windowSlides", fn := fun _ => fun
  | [d1, d2, d3, d4, d5] => { results := [.lit (.bool true)], args := [d1, d2, d3, d4, d5] }
  | _ => none }
def windowSlidesRow : OpenClaim := { program := "ytgmbbjkkmgooiaa", sum := "717f3aa72114fab6e0bf628c61051b951fc64077af11351b7790e0185c45f15d", func := "cicerone/ciceronelaw10.WindowSlides", spec := "windowSlides", unfollowed := true, recurses := true, plainKeys := false, apart := false }
def WindowSlidesSaid : Prop := windowSlidesRow.holds Try.pinned (OpenSpec.ofChange windowSlidesSpec)

/-- ITS FALSE NEIGHBOUR: 'it returns false'. Refute it at one input. -/
def windowSlidesWrong : ChangeSpec := { name := "windowSlides", fn := fun _ => fun
  | [d1, d2, d3, d4, d5] => { results := [.lit (.bool false)], args := [d1, d2, d3, d4, d5] }
  | _ => none }
def WindowSlidesWrongFalsely : Prop := windowSlidesRow.holds Try.pinned (OpenSpec.ofChange windowSlidesWrong)

/-- 'ciceronelaw10.WindowCounts': WHATEVER THE INPUT: true; the input reads as it did. -/
def windowCountsSpec : ChangeSpec := { name := "windowCounts", fn := fun _ => fun
  | [d1, d2, d3, d4] => { results := [.lit (.bool true)], args := [d1, d2, d3, d4] }
  | _ => none }
def windowCountsRow : OpenClaim := { program := "ytgmbbjkkmgooiaa", sum := "717f3aa72114fab6e0bf628c61051b951fc64077af11351b7790e0185c45f15d", func := "cicerone/ciceronelaw10.WindowCounts", spec := "windowCounts", unfollowed := true, recurses := true, plainKeys := false, apart := false }
def WindowCountsSaid : Prop := windowCountsRow.holds Try.pinned (OpenSpec.ofChange windowCountsSpec)

/-- ITS FALSE NEIGHBOUR: 'it returns false'. Refute it at one input. -/
def windowCountsWrong : ChangeSpec := { name := "windowCounts", fn := fun _ => fun
  | [d1, d2, d3, d4] => { results := [.lit (.bool false)], args := [d1, d2, d3, d4] }
  | _ => none }
def WindowCountsWrongFalsely : Prop := windowCountsRow.holds Try.pinned (OpenSpec.ofChange windowCountsWrong)

/-- 'ciceronelaw10.WindowTumbles': WHATEVER THE INPUT: true; the input reads as it did. -/
def windowTumblesSpec : ChangeSpec := { name := "windowTumbles", fn := fun _ => fun
  | [d1, d2, d3, d4] => { results := [.lit (.bool true)], args := [d1, d2, d3, d4] }
  | _ => none }
def windowTumblesRow : OpenClaim := { program := "ytgmbbjkkmgooiaa", sum := "717f3aa72114fab6e0bf628c61051b951fc64077af11351b7790e0185c45f15d", func := "cicerone/ciceronelaw10.WindowTumbles", spec := "windowTumbles", unfollowed := true, recurses := true, plainKeys := false, apart := false }
def WindowTumblesSaid : Prop := windowTumblesRow.holds Try.pinned (OpenSpec.ofChange windowTumblesSpec)

/-- ITS FALSE NEIGHBOUR: 'it returns false'. Refute it at one input. -/
def windowTumblesWrong : ChangeSpec := { name := "windowTumbles", fn := fun _ => fun
  | [d1, d2, d3, d4] => { results := [.lit (.bool false)], args := [d1, d2, d3, d4] }
  | _ => none }
def WindowTumblesWrongFalsely : Prop := windowTumblesRow.holds Try.pinned (OpenSpec.ofChange windowTumblesWrong)

/-- 'ciceronetop.TopPanes': WHATEVER THE INPUT: true; the input reads as it did. -/
def topPanesSpec : ChangeSpec := { name := "topPanes", fn := fun _ => fun
  | [d1, d2, d3, d4, d5, d6] => { results := [.lit (.bool true)], args := [d1, d2, d3, d4, d5, d6] }
  | _ => none }
def topPanesRow : OpenClaim := { program := "ytgmbbjkkmgooiaa", sum := "717f3aa72114fab6e0bf628c61051b951fc64077af11351b7790e0185c45f15d", func := "cicerone/ciceronetop.TopPanes", spec := "topPanes", unfollowed := true, recurses := true, plainKeys := false, apart := false }
def TopPanesSaid : Prop := topPanesRow.holds Try.pinned (OpenSpec.ofChange topPanesSpec)

/-- ITS FALSE NEIGHBOUR: 'it returns false'. Refute it at one input. -/
def topPanesWrong : ChangeSpec := { name := "topPanes", fn := fun _ => fun
  | [d1, d2, d3, d4, d5, d6] => { results := [.lit (.bool false)], args := [d1, d2, d3, d4, d5, d6] }
  | _ => none }
def TopPanesWrongFalsely : Prop := topPanesRow.holds Try.pinned (OpenSpec.ofChange topPanesWrong)

/- THE SECOND FORM. 'bulk': how many values and letters a reading holds, each counted each time it is reached (what is shared counts as often as it is met; a slice's spare places count too). A statement '..UptoSaid' is the law's where the arguments, and the package variables that the reading takes, are together of bulk at most 1048576: NARROWER than '..Said'. Prove '..Said' where nothing that the law and all that it calls make is longer than what came in: it says more and counts as full. Else prove '..UptoSaid'. A law counts once. -/
mutual
def uptoBulk {H : Type} : DataW H → Nat
  | .lit (.string bytes) => bytes.length + 1
  | .lit _ => 1
  | .nil => 1
  | .ptr d => uptoBulk d + 1
  | .slice elems spare => uptoBulkAll elems + uptoBulkAll spare + 1
  | .agg parts => uptoBulkAll parts + 1
  | .iface _ d => uptoBulk d + 1
  | .map entries => uptoBulkEntries entries + 1
  | .held _ => 1
def uptoBulkAll {H : Type} : List (DataW H) → Nat
  | [] => 0
  | d :: r => uptoBulk d + uptoBulkAll r
def uptoBulkEntries {H : Type} : List (Lit × DataW H) → Nat
  | [] => 0
  | x :: r => uptoBulkEntry x + uptoBulkEntries r
def uptoBulkEntry {H : Type} : Lit × DataW H → Nat
  | (.string bytes, d) => bytes.length + uptoBulk d + 1
  | (_, d) => uptoBulk d + 1
 end
def uptoSmall : (H : Type) → List (DataW H) → Bool := fun _ ds => decide (uptoBulkAll ds ≤ 1048576)
def OpenSpec.upto (s : _root_.Go.ChangeSpec) : _root_.Go.OpenSpec := { _root_.Go.OpenSpec.ofChange s with cond := some uptoSmall }

/-- 'ciceronelaw10.WindowHolds', WHERE WHAT IT READS IS OF BULK AT MOST 1048576: true; the input reads as it did. -/
def windowHoldsUptoRow : OpenClaim := { program := "ytgmbbjkkmgooiaa", sum := "717f3aa72114fab6e0bf628c61051b951fc64077af11351b7790e0185c45f15d", func := "cicerone/ciceronelaw10.WindowHolds", spec := "windowHolds", unfollowed := true, recurses := true, plainKeys := false, apart := false, narrowed := true }
def WindowHoldsUptoSaid : Prop := windowHoldsUptoRow.holds Try.pinned (OpenSpec.upto windowHoldsSpec)

/-- 'ciceronelaw10.WindowMays', WHERE WHAT IT READS IS OF BULK AT MOST 1048576: true; the input reads as it did. -/
def windowMaysUptoRow : OpenClaim := { program := "ytgmbbjkkmgooiaa", sum := "717f3aa72114fab6e0bf628c61051b951fc64077af11351b7790e0185c45f15d", func := "cicerone/ciceronelaw10.WindowMays", spec := "windowMays", unfollowed := true, recurses := true, plainKeys := false, apart := false, narrowed := true }
def WindowMaysUptoSaid : Prop := windowMaysUptoRow.holds Try.pinned (OpenSpec.upto windowMaysSpec)

/-- 'ciceronelaw10.WindowAts', WHERE WHAT IT READS IS OF BULK AT MOST 1048576: true; the input reads as it did. -/
def windowAtsUptoRow : OpenClaim := { program := "ytgmbbjkkmgooiaa", sum := "717f3aa72114fab6e0bf628c61051b951fc64077af11351b7790e0185c45f15d", func := "cicerone/ciceronelaw10.WindowAts", spec := "windowAts", unfollowed := true, recurses := true, plainKeys := false, apart := false, narrowed := true }
def WindowAtsUptoSaid : Prop := windowAtsUptoRow.holds Try.pinned (OpenSpec.upto windowAtsSpec)

/-- 'ciceronelaw10.WindowSlides', WHERE WHAT IT READS IS OF BULK AT MOST 1048576: true; the input reads as it did. -/
def windowSlidesUptoRow : OpenClaim := { program := "ytgmbbjkkmgooiaa", sum := "717f3aa72114fab6e0bf628c61051b951fc64077af11351b7790e0185c45f15d", func := "cicerone/ciceronelaw10.WindowSlides", spec := "windowSlides", unfollowed := true, recurses := true, plainKeys := false, apart := false, narrowed := true }
def WindowSlidesUptoSaid : Prop := windowSlidesUptoRow.holds Try.pinned (OpenSpec.upto windowSlidesSpec)

/-- 'ciceronelaw10.WindowCounts', WHERE WHAT IT READS IS OF BULK AT MOST 1048576: true; the input reads as it did. -/
def windowCountsUptoRow : OpenClaim := { program := "ytgmbbjkkmgooiaa", sum := "717f3aa72114fab6e0bf628c61051b951fc64077af11351b7790e0185c45f15d", func := "cicerone/ciceronelaw10.WindowCounts", spec := "windowCounts", unfollowed := true, recurses := true, plainKeys := false, apart := false, narrowed := true }
def WindowCountsUptoSaid : Prop := windowCountsUptoRow.holds Try.pinned (OpenSpec.upto windowCountsSpec)

/-- 'ciceronelaw10.WindowTumbles', WHERE WHAT IT READS IS OF BULK AT MOST 1048576: true; the input reads as it did. -/
def windowTumblesUptoRow : OpenClaim := { program := "ytgmbbjkkmgooiaa", sum := "717f3aa72114fab6e0bf628c61051b951fc64077af11351b7790e0185c45f15d", func := "cicerone/ciceronelaw10.WindowTumbles", spec := "windowTumbles", unfollowed := true, recurses := true, plainKeys := false, apart := false, narrowed := true }
def WindowTumblesUptoSaid : Prop := windowTumblesUptoRow.holds Try.pinned (OpenSpec.upto windowTumblesSpec)

/-- 'ciceronetop.TopPanes', WHERE WHAT IT READS IS OF BULK AT MOST 1048576: true; the input reads as it did. -/
def topPanesUptoRow : OpenClaim := { program := "ytgmbbjkkmgooiaa", sum := "717f3aa72114fab6e0bf628c61051b951fc64077af11351b7790e0185c45f15d", func := "cicerone/ciceronetop.TopPanes", spec := "topPanes", unfollowed := true, recurses := true, plainKeys := false, apart := false, narrowed := true }
def TopPanesUptoSaid : Prop := topPanesUptoRow.holds Try.pinned (OpenSpec.upto topPanesSpec)

end Rows
end Go.Proofs.Ytgmbbjkkmgooiaa
