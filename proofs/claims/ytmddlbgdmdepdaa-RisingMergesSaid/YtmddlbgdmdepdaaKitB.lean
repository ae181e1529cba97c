/- The laws of KitA at the operation, for walks: a look-up, a store, a range and its step, over maps told as lists of pairs; over any program. No condition. -/
import Derived.Test.YtmddlbgdmdepdaaKitA
import Derived.Maps.RangeWalk
import Derived.WalkKit
set_option linter.unusedVariables false
set_option linter.unusedSimpArgs false
set_option maxRecDepth 100000
namespace Go.Proofs.Ytmddlbgdmdepdaa.CK
open Go.Maps Go.MapKept Go.RowKit Go.ChangeMaps

section
variable {α β : Type} {P : Program} (w : World) {ops : Array Oper} {rest : List Oper} {o : Oper} {a : Act} {Q : Exit → Act → World → Prop}

/-- 'm[k]' -/
theorem wpList_lookT [DecidableEq α] (hg : o.guard = none) (m x : Operand) (t : TypeId) (hop : o.op = Op.lookup t m x false) (k e : TypeId) (K : Keyed P k) (ht : P.underlying t = some (.map k e))
    (z : Value) (hz : (zeroValue e).run P w = .ok z w) (ek : α → Value) (ev : β → Value) (inj : ∀ x y, ek x = ek y → x = y) (b : Nat) (l : List (α × β))
    (hm : a.eval m = .map (some b)) (hown : MapT P k ek ev w b l) (key : α) (hx : a.eval x = ek key) (hkey : GoodK P k (ek key)) (v : Value) (hv : ((lookA l key).map ev).getD z = v)
    (hK : wpList P ops Q rest (a.put o.dst v) w) : wpList P ops Q (o :: rest) a w := by
  refine wpList_plain hg fun K' hK' => ?_
  have hrun := hown.lookup K inj ht hz hkey false
  unfold Oper.wp
  simp only [if_false, Bool.false_eq_true, hv] at hrun
  simp [execOp, hop, hm, hx, hrun, Result.andThen]
  exact hK' _ _ hK

/-- 'v, ok := m[k]' -/
theorem wpList_lookOkT [DecidableEq α] (hg : o.guard = none) (m x : Operand) (t : TypeId) (hop : o.op = Op.lookup t m x true) (k e : TypeId) (K : Keyed P k) (ht : P.underlying t = some (.map k e))
    (z : Value) (hz : (zeroValue e).run P w = .ok z w) (ek : α → Value) (ev : β → Value) (inj : ∀ x y, ek x = ek y → x = y) (b : Nat) (l : List (α × β))
    (hm : a.eval m = .map (some b)) (hown : MapT P k ek ev w b l) (key : α) (hx : a.eval x = ek key) (hkey : GoodK P k (ek key)) (v : Value) (hv : ((lookA l key).map ev).getD z = v) (ok : Bool) (hok : (lookA l key).isSome = ok)
    (hK : wpList P ops Q rest (a.put o.dst (.tuple #[v, .bool ok])) w) : wpList P ops Q (o :: rest) a w := by
  refine wpList_plain hg fun K' hK' => ?_
  have hrun := hown.lookup K inj ht hz hkey true
  unfold Oper.wp
  simp only [if_true, hv, hok] at hrun
  simp [execOp, hop, hm, hx, hrun, Result.andThen]
  exact hK' _ _ hK

/-- 'm[k] = v' -/
theorem wpList_updT [DecidableEq α] (hg : o.guard = none) (m x v : Operand) (t : TypeId) (hop : o.op = Op.mapUpdate t m x v) (k e : TypeId) (K : Keyed P k) (ht : P.underlying t = some (.map k e))
    (ek : α → Value) (ev : β → Value) (inj : ∀ x y, ek x = ek y → x = y) (b : Nat) (l : List (α × β))
    (hm : a.eval m = .map (some b)) (hown : MapT P k ek ev w b l) (key : α) (hx : a.eval x = ek key) (hkey : GoodK P k (ek key)) (y : β) (hv : a.eval v = ev y)
    (hK : ∀ w', MapT P k ek ev w' b (putA l key y) → Fr [b] w w' → w'.heap.size = w.heap.size → wpList P ops Q rest (a.put o.dst undef) w') : wpList P ops Q (o :: rest) a w := by
  refine wpList_plain hg fun K' hK' => ?_
  obtain ⟨es', c', hrun, h1⟩ := hown.update K inj ht hkey y
  unfold Oper.wp
  simp [execOp, hop, hm, hx, hv, hrun, Result.andThen]
  exact hK' _ _ (hK _ h1 (frSetBlock _) (sizeSetBlock _ _ _))

/-- 'range m' -/
theorem wpList_rangeT (hg : o.guard = none) (m : Operand) (t : TypeId) (hop : o.op = Op.range t m) (k e : TypeId) (ht : P.underlying t = some (.map k e))
    (ek : α → Value) (ev : β → Value) (b : Nat) (l : List (α × β)) (hm : a.eval m = .map (some b)) (hown : MapT P k ek ev w b l)
    (hK : ∀ w', IterT P k ek ev w' w.heap.size b l [] l → Below w.heap.size w w' → w'.heap.size = w.heap.size + 1 → wpList P ops Q rest (a.put o.dst (.pointer (some ⟨w.heap.size, 0, none⟩))) w') :
    wpList P ops Q (o :: rest) a w := by
  refine wpList_plain hg fun K' hK' => ?_
  obtain ⟨c, hrun, r1⟩ := hown.range ht
  unfold Oper.wp
  simp [execOp, hop, hm, hrun, Result.andThen]
  exact hK' _ _ (hK _ r1 ((Below.refl _ w).alloc (Nat.le_refl _) _) (by simp))

/-- a range's step -/
theorem wpList_nextT (hg : o.guard = none) (it : Operand) (hop : o.op = Op.next it false) (k : TypeId) (ek : α → Value) (ev : β → Value) (r b : Nat) (l vis left : List (α × β))
    (hit : a.eval it = .pointer (some ⟨r, 0, none⟩)) (h : IterT P k ek ev w r b l vis left)
    (hDone : left = [] → wpList P ops Q rest (a.put o.dst (.tuple #[.bool false])) w)
    (hMore : ∀ (p : α × β) (r1 r2 : List (α × β)) (w' : World), left = r1 ++ p :: r2 → IterT P k ek ev w' r b l (vis ++ [p]) (r1 ++ r2) → Fr [r] w w' → w'.heap.size = w.heap.size →
      (∀ (w'' : World), w''.heap[r]? = w'.heap[r]? → w''.heap[b]? = w'.heap[b]? → (Instr.entry (.pointer (some ⟨r, 0, none⟩))).run P w'' = .ok (.tuple #[ek p.1, ev p.2]) w'') →
      wpList P ops Q rest (a.put o.dst (.tuple #[.bool true, ek p.1, ev p.2])) w') :
    wpList P ops Q (o :: rest) a w := by
  refine wpList_plain hg fun K' hK' => ?_
  unfold Oper.wp
  rcases h.next o.type with ⟨h0, hrun⟩ | ⟨p, r1, r2, w', hl, hrun, hit', hfr, hsz, hen⟩
  · simp [execOp, hop, hit, hrun, Result.andThen]
    exact hK' _ _ (hDone h0)
  · simp [execOp, hop, hit, hrun, Result.andThen]
    exact hK' _ _ (hMore p r1 r2 w' hl hit' hfr hsz hen)

/-- 'len(m)' -/
theorem wpList_lenT (hg : o.guard = none) (m : Operand) (t : TypeId) (hop : o.op = Op.call { callee := Callee.builtin Builtin.len, args := #[m], argTypes := #[t] }) (k e : TypeId) (ht : P.underlying t = some (.map k e))
    (ek : α → Value) (ev : β → Value) (b : Nat) (l : List (α × β)) (hm : a.eval m = .map (some b)) (hown : MapT P k ek ev w b l)
    (hK : wpList P ops Q rest (a.put o.dst (.int .i64 l.length)) w) : wpList P ops Q (o :: rest) a w := by
  refine wpList_plain hg fun K' hK' => ?_
  have hrun := hown.len ht o.type
  unfold Oper.wp
  simp [execOp, hop, resolve, invoke, builtin, hm, hrun, Result.andThen]
  exact hK' _ _ hK
end

end Go.Proofs.Ytmddlbgdmdepdaa.CK
