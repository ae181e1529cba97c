/- What the laws' arguments are, as lists and numbers. No condition. -/
import Derived.Test.YtmddlbgdmdepdaaKitC
import Derived.Test.YtmddlbgdmdepdaaProg
import Derived.KernelRfl
set_option linter.unusedVariables false
set_option linter.unusedSimpArgs false
set_option maxRecDepth 100000
namespace Go.Proofs.Ytmddlbgdmdepdaa
open Go.RowKit CK
structure Spec where
  size : Int
  hop : Int
def Spec.cs (a : Spec) : List Value := [.int .i64 a.size, .int .i64 a.hop]
def Spec.ok (a : Spec) : Prop := (Lit.int .i64 a.size).wf = true ∧ (Lit.int .i64 a.hop).wf = true
theorem cellsOfSpec : Try.prog.cellsOf 44 = 2 := by kernel_rfl
theorem openSpec {H : Type} {enc : TypeId × Value → H} {w : World} {base : Nat} {sp : Nat → Bool} {held : Bool} {fuel : Nat} {cs : List Value} {x : DataW H × List MemPlace}
    (h : DataW.trod enc Try.prog w base sp held fuel 44 cs = some x) : ∃ a : Spec, cs = a.cs ∧ a.ok := by
  obtain ⟨hl, n, hf⟩ := trod_field Try.underlying44 h
  rw [cellsOfSpec] at hl
  have hz0 : Try.prog.cellsOf 3 = 1 := by kernel_rfl
  match cs, hl with
  | [c0, c1], _ =>
    obtain ⟨y0, g0⟩ := hf 0 _ rfl
    simp [hz0] at g0
    obtain ⟨b0, e0, _, k0⟩ := DataW.trod_int Try.underlying3 g0
    obtain rfl : c0 = .int .i64 b0 := by simpa using e0
    obtain ⟨y1, g1⟩ := hf 1 _ rfl
    simp [hz0] at g1
    obtain ⟨b1, e1, _, k1⟩ := DataW.trod_int Try.underlying3 g1
    obtain rfl : c1 = .int .i64 b1 := by simpa using e1
    exact ⟨⟨b0, b1⟩, rfl, k0, k1⟩
def SpecsAt (w : World) (l : List Spec) (v : Value) : Prop := SliceR 2 (fun _ a cs => cs = Spec.cs a ∧ a.ok) w l v
theorem SpecsAt.below {w w' : World} {l : List Spec} {v : Value} (h : SpecsAt w l v) (hb : Below w.heap.size w w') : SpecsAt w' l v := SliceR.below h hb fun _ _ h => h
theorem SpecsAt.cells {w : World} {l : List Spec} {b off : Nat} (h : ∀ i (_ : i < l.length), ∃ ce, ce.length = 2 ∧ (ce = l[i].cs ∧ l[i].ok) ∧ ∀ j, j < 2 → w.cell? ⟨b, off + i * 2 + j, none⟩ = ce[j]?) (i : Nat) (hi : i < l.length) :
    l[i].ok ∧ w.cell? ⟨b, off + i * 2, none⟩ = some (.int .i64 l[i].size) ∧ w.cell? ⟨b, off + i * 2 + 1, none⟩ = some (.int .i64 l[i].hop) := by
  obtain ⟨ce, _, ⟨rfl, hok⟩, hc⟩ := h i hi
  exact ⟨hok, hc 0 (by omega), hc 1 (by omega)⟩
structure Add where
  key : ByteArray
  at_ : Int
  n : Int
def Add.cs (a : Add) : List Value := [.string a.key, .int .i64 a.at_, .int .i64 a.n]
def Add.ok (a : Add) : Prop := a.key.size ≤ maxLen ∧ (Lit.int .i64 a.at_).wf = true ∧ (Lit.int .i64 a.n).wf = true
theorem cellsOfAdd : Try.prog.cellsOf 60 = 3 := by kernel_rfl
theorem openAdd {H : Type} {enc : TypeId × Value → H} {w : World} {base : Nat} {sp : Nat → Bool} {held : Bool} {fuel : Nat} {cs : List Value} {x : DataW H × List MemPlace}
    (h : DataW.trod enc Try.prog w base sp held fuel 60 cs = some x) : ∃ a : Add, cs = a.cs ∧ a.ok := by
  obtain ⟨hl, n, hf⟩ := trod_field Try.underlying60 h
  rw [cellsOfAdd] at hl
  have hz0 : Try.prog.cellsOf 2 = 1 := by kernel_rfl
  have hz1 : Try.prog.cellsOf 3 = 1 := by kernel_rfl
  have hz2 : Try.prog.cellsOf 9 = 1 := by kernel_rfl
  match cs, hl with
  | [c0, c1, c2], _ =>
    obtain ⟨y0, g0⟩ := hf 0 _ rfl
    simp [hz2] at g0
    obtain ⟨b0, e0, _, k0⟩ := DataW.trod_string Try.underlying9 g0
    obtain rfl : c0 = .string b0 := by simpa using e0
    obtain ⟨y1, g1⟩ := hf 1 _ rfl
    simp [hz1] at g1
    obtain ⟨b1, e1, _, k1⟩ := DataW.trod_int Try.underlying3 g1
    obtain rfl : c1 = .int .i64 b1 := by simpa using e1
    obtain ⟨y2, g2⟩ := hf 2 _ rfl
    simp [hz0] at g2
    obtain ⟨b2, e2, _, k2⟩ := DataW.trod_int Try.underlying2 g2
    obtain rfl : c2 = .int .i64 b2 := by simpa using e2
    exact ⟨⟨b0, b1, b2⟩, rfl, k0, k1, k2⟩
def AddsAt (w : World) (l : List Add) (v : Value) : Prop := SliceR 3 (fun _ a cs => cs = Add.cs a ∧ a.ok) w l v
theorem AddsAt.below {w w' : World} {l : List Add} {v : Value} (h : AddsAt w l v) (hb : Below w.heap.size w w') : AddsAt w' l v := SliceR.below h hb fun _ _ h => h
theorem AddsAt.cells {w : World} {l : List Add} {b off : Nat} (h : ∀ i (_ : i < l.length), ∃ ce, ce.length = 3 ∧ (ce = l[i].cs ∧ l[i].ok) ∧ ∀ j, j < 3 → w.cell? ⟨b, off + i * 3 + j, none⟩ = ce[j]?) (i : Nat) (hi : i < l.length) :
    l[i].ok ∧ w.cell? ⟨b, off + i * 3, none⟩ = some (.string l[i].key) ∧ w.cell? ⟨b, off + i * 3 + 1, none⟩ = some (.int .i64 l[i].at_) ∧ w.cell? ⟨b, off + i * 3 + 2, none⟩ = some (.int .i64 l[i].n) := by
  obtain ⟨ce, _, ⟨rfl, hok⟩, hc⟩ := h i hi
  exact ⟨hok, hc 0 (by omega), hc 1 (by omega), hc 2 (by omega)⟩
structure TAdd where
  key : ByteArray
  at_ : Int
  n : Int
def TAdd.cs (a : TAdd) : List Value := [.string a.key, .int .u16 a.at_, .int .u16 a.n]
def TAdd.ok (a : TAdd) : Prop := a.key.size ≤ maxLen ∧ (Lit.int .u16 a.at_).wf = true ∧ (Lit.int .u16 a.n).wf = true
theorem cellsOfTAdd : Try.prog.cellsOf 30 = 3 := by kernel_rfl
theorem openTAdd {H : Type} {enc : TypeId × Value → H} {w : World} {base : Nat} {sp : Nat → Bool} {held : Bool} {fuel : Nat} {cs : List Value} {x : DataW H × List MemPlace}
    (h : DataW.trod enc Try.prog w base sp held fuel 30 cs = some x) : ∃ a : TAdd, cs = a.cs ∧ a.ok := by
  obtain ⟨hl, n, hf⟩ := trod_field Try.underlying30 h
  rw [cellsOfTAdd] at hl
  have hz0 : Try.prog.cellsOf 9 = 1 := by kernel_rfl
  have hz1 : Try.prog.cellsOf 23 = 1 := by kernel_rfl
  match cs, hl with
  | [c0, c1, c2], _ =>
    obtain ⟨y0, g0⟩ := hf 0 _ rfl
    simp [hz0] at g0
    obtain ⟨b0, e0, _, k0⟩ := DataW.trod_string Try.underlying9 g0
    obtain rfl : c0 = .string b0 := by simpa using e0
    obtain ⟨y1, g1⟩ := hf 1 _ rfl
    simp [hz1] at g1
    obtain ⟨b1, e1, _, k1⟩ := DataW.trod_int Try.underlying23 g1
    obtain rfl : c1 = .int .u16 b1 := by simpa using e1
    obtain ⟨y2, g2⟩ := hf 2 _ rfl
    simp [hz1] at g2
    obtain ⟨b2, e2, _, k2⟩ := DataW.trod_int Try.underlying23 g2
    obtain rfl : c2 = .int .u16 b2 := by simpa using e2
    exact ⟨⟨b0, b1, b2⟩, rfl, k0, k1, k2⟩
def TAddsAt (w : World) (l : List TAdd) (v : Value) : Prop := SliceR 3 (fun _ a cs => cs = TAdd.cs a ∧ a.ok) w l v
theorem TAddsAt.below {w w' : World} {l : List TAdd} {v : Value} (h : TAddsAt w l v) (hb : Below w.heap.size w w') : TAddsAt w' l v := SliceR.below h hb fun _ _ h => h
theorem TAddsAt.cells {w : World} {l : List TAdd} {b off : Nat} (h : ∀ i (_ : i < l.length), ∃ ce, ce.length = 3 ∧ (ce = l[i].cs ∧ l[i].ok) ∧ ∀ j, j < 3 → w.cell? ⟨b, off + i * 3 + j, none⟩ = ce[j]?) (i : Nat) (hi : i < l.length) :
    l[i].ok ∧ w.cell? ⟨b, off + i * 3, none⟩ = some (.string l[i].key) ∧ w.cell? ⟨b, off + i * 3 + 1, none⟩ = some (.int .u16 l[i].at_) ∧ w.cell? ⟨b, off + i * 3 + 2, none⟩ = some (.int .u16 l[i].n) := by
  obtain ⟨ce, _, ⟨rfl, hok⟩, hc⟩ := h i hi
  exact ⟨hok, hc 0 (by omega), hc 1 (by omega), hc 2 (by omega)⟩
end Go.Proofs.Ytmddlbgdmdepdaa
