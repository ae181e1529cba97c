/- A rise as an argument. No condition. -/
import Derived.Test.YtmddlbgdmdepdaaKitC
import Derived.Test.YtmddlbgdmdepdaaProg
import Derived.KernelRfl
set_option linter.unusedVariables false
set_option linter.unusedSimpArgs false
set_option maxRecDepth 100000
namespace Go.Proofs.Ytmddlbgdmdepdaa
open Go.RowKit CK
structure RiseB where
  key : ByteArray
  nw : Int
  od : Int
def RiseB.cs (a : RiseB) : List Value := [.string a.key, .int .i64 a.nw, .int .i64 a.od]
def RiseB.ok (a : RiseB) : Prop := a.key.size ≤ maxLen ∧ (Lit.int .i64 a.nw).wf = true ∧ (Lit.int .i64 a.od).wf = true
theorem cellsOfRiseB : Try.prog.cellsOf 35 = 3 := by kernel_rfl
theorem openRiseB {H : Type} {enc : TypeId × Value → H} {w : World} {base : Nat} {sp : Nat → Bool} {held : Bool} {fuel : Nat} {cs : List Value} {x : DataW H × List MemPlace}
    (h : DataW.trod enc Try.prog w base sp held fuel 35 cs = some x) : ∃ a : RiseB, cs = a.cs ∧ a.ok := by
  obtain ⟨hl, n, hf⟩ := trod_field Try.underlying35 h
  rw [cellsOfRiseB] at hl
  have hz0 : Try.prog.cellsOf 2 = 1 := by kernel_rfl
  have hz1 : Try.prog.cellsOf 9 = 1 := by kernel_rfl
  match cs, hl with
  | [c0, c1, c2], _ =>
    obtain ⟨y0, g0⟩ := hf 0 _ rfl
    simp [hz1] at g0
    obtain ⟨b0, e0, _, k0⟩ := DataW.trod_string Try.underlying9 g0
    obtain rfl : c0 = .string b0 := by simpa using e0
    obtain ⟨y1, g1⟩ := hf 1 _ rfl
    simp [hz0] at g1
    obtain ⟨b1, e1, _, k1⟩ := DataW.trod_int Try.underlying2 g1
    obtain rfl : c1 = .int .i64 b1 := by simpa using e1
    obtain ⟨y2, g2⟩ := hf 2 _ rfl
    simp [hz0] at g2
    obtain ⟨b2, e2, _, k2⟩ := DataW.trod_int Try.underlying2 g2
    obtain rfl : c2 = .int .i64 b2 := by simpa using e2
    exact ⟨⟨b0, b1, b2⟩, rfl, k0, k1, k2⟩
def RiseBsAt (w : World) (l : List RiseB) (v : Value) : Prop := SliceR 3 (fun _ a cs => cs = RiseB.cs a ∧ a.ok) w l v
theorem RiseBsAt.below {w w' : World} {l : List RiseB} {v : Value} (h : RiseBsAt w l v) (hb : Below w.heap.size w w') : RiseBsAt w' l v := SliceR.below h hb fun _ _ h => h
theorem RiseBsAt.cells {w : World} {l : List RiseB} {b off : Nat} (h : ∀ i (_ : i < l.length), ∃ ce, ce.length = 3 ∧ (ce = l[i].cs ∧ l[i].ok) ∧ ∀ j, j < 3 → w.cell? ⟨b, off + i * 3 + j, none⟩ = ce[j]?) (i : Nat) (hi : i < l.length) :
    l[i].ok ∧ w.cell? ⟨b, off + i * 3, none⟩ = some (.string l[i].key) ∧ w.cell? ⟨b, off + i * 3 + 1, none⟩ = some (.int .i64 l[i].nw) ∧ w.cell? ⟨b, off + i * 3 + 2, none⟩ = some (.int .i64 l[i].od) := by
  obtain ⟨ce, _, ⟨rfl, hok⟩, hc⟩ := h i hi
  exact ⟨hok, hc 0 (by omega), hc 1 (by omega), hc 2 (by omega)⟩
end Go.Proofs.Ytmddlbgdmdepdaa
