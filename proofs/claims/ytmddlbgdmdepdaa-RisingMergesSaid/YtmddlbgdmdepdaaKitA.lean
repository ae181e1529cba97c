/- Plain laws for walks, over any program: worlds that part only in some blocks ('Fr'), and maps told as lists of pairs in the order in which their keys were first laid ('MapT'). No condition. -/
import Derived.Maps.RangeWalk
import Derived.Maps.OwnSet
import Derived.Maps.Range
import Derived.Lib.Hide
import Derived.WalkSmall
import Derived.OwnWalk
import Derived.Maps.AppendAt
import Derived.WideShapes
import Derived.Lib.Strings
set_option linter.unusedVariables false
set_option linter.unusedSimpArgs false
set_option maxRecDepth 100000
namespace Go.Proofs.Ytmddlbgdmdepdaa.CK
open Go.Maps Go.MapKept Go.RowKit Go.ChangeMaps

/-! ### Worlds that part only in some blocks -/

structure Fr (S : List Nat) (w w' : World) : Prop where
  os : w'.os = w.os
  tape : w'.tape = w.tape
  output : w'.output = w.output
  size : w.heap.size ≤ w'.heap.size
  block : ∀ b, b < w.heap.size → b ∉ S → w'.heap[b]? = w.heap[b]?

theorem Fr.refl (S : List Nat) (w : World) : Fr S w w := ⟨rfl, rfl, rfl, Nat.le_refl _, fun _ _ _ => rfl⟩
theorem Fr.trans {S T U : List Nat} {a b c : World} (h : Fr S a b) (k : Fr T b c) (hS : ∀ x ∈ S, x ∈ U ∨ a.heap.size ≤ x) (hT : ∀ x ∈ T, x ∈ U ∨ a.heap.size ≤ x) : Fr U a c :=
  ⟨k.os.trans h.os, k.tape.trans h.tape, k.output.trans h.output, Nat.le_trans h.size k.size, fun i hi hn =>
    (k.block i (Nat.lt_of_lt_of_le hi h.size) fun hx => (hT i hx).elim hn (by omega)).trans (h.block i hi fun hx => (hS i hx).elim hn (by omega))⟩
theorem Fr.mono {S U : List Nat} {a b : World} (h : Fr S a b) (hS : ∀ x ∈ S, x ∈ U ∨ a.heap.size ≤ x) : Fr U a b :=
  ⟨h.os, h.tape, h.output, h.size, fun i hi hn => h.block i hi fun hx => (hS i hx).elim hn (by omega)⟩
theorem Fr.of_below {w w' : World} (h : Below w.heap.size w w') (S : List Nat) : Fr S w w' := ⟨h.os, h.tape, h.output, h.size, fun b hb _ => h.block b hb⟩
theorem Fr.below {S : List Nat} {w w' : World} (h : Fr S w w') {B : Nat} (hB : B ≤ w.heap.size) (hS : ∀ x ∈ S, B ≤ x) : Below B w w' :=
  ⟨h.os, h.tape, h.output, h.size, fun b hb => h.block b (by omega) fun hx => by have := hS b hx; omega⟩
theorem Fr.below' {w w' : World} (h : Fr [] w w') : Below w.heap.size w w' := h.below (Nat.le_refl _) (by simp)
theorem Fr.drewN {S : List Nat} {a w : World} (h : Fr S a w) (n : Nat) : Fr S a (w.drewN n) := ⟨h.os, h.tape, h.output, h.size, h.block⟩
theorem Fr.drew {S : List Nat} {a w : World} (h : Fr S a w) : Fr S a w.drew := ⟨h.os, h.tape, h.output, h.size, h.block⟩
theorem Fr.alloc {S : List Nat} {a w : World} (h : Fr S a w) (o : Obj) : Fr S a (w.alloc o) :=
  h.trans (T := []) (Fr.of_below ((Below.refl _ w).alloc (Nat.le_refl _) o) []) (fun x hx => .inl hx) (by simp)
theorem Fr.setCell {S : List Nat} {a w : World} (h : Fr S a w) {p : Addr} (hp : p.block ∈ S ∨ a.heap.size ≤ p.block) (u : Value) : Fr S a (w.setCell p u) := by
  refine ⟨h.os, h.tape, h.output, by simpa using h.size, fun b hb hn => ?_⟩
  rw [Below.heap_setCell w p u b (by rintro rfl; exact hp.elim hn (by omega))]
  exact h.block b hb hn
theorem Fr.grown {S : List Nat} {a w w' : World} {row : Option Nat} (h : Fr S a w) (hg : w.grownBy w' row) (hr : ∀ k, row = some k → k ∈ S ∨ a.heap.size ≤ k) : Fr S a w' :=
  ⟨hg.os.trans h.os, hg.tape.trans h.tape, hg.output.trans h.output, Nat.le_trans h.size hg.size, fun b hb hn =>
    (hg.block b (Nat.lt_of_lt_of_le hb h.size) fun e => (hr b e.symm).elim hn (by omega)).trans (h.block b hb hn)⟩
theorem Fr.cell {S : List Nat} {w w' : World} (h : Fr S w w') {p : Addr} (hp : p.block < w.heap.size) (hn : p.block ∉ S) : w'.cell? p = w.cell? p := World.cell?_of_block (w := w) (h.block p.block hp hn)
theorem Fr.frozen {S : List Nat} {w w' : World} (h : Fr S w w') {p : Addr} (hp : p.block < w.heap.size) (hn : p.block ∉ S) : w'.frozen? p = w.frozen? p := World.frozen?_of_block (w := w) (h.block p.block hp hn)

/-- the two rules that a walk takes behind a call that leaves what was there -/
theorem bcell {B : Nat} {W W1 : World} (hb : Below B W W1) : (∀ b o, b < B → W1.cell? ⟨b, o, none⟩ = W.cell? ⟨b, o, none⟩) ∧ (∀ b o, b < B → W1.frozen? ⟨b, o, none⟩ = W.frozen? ⟨b, o, none⟩) :=
  ⟨fun b o h => hb.cell (p := ⟨b, o, none⟩) h, fun b o h => hb.frozen (p := ⟨b, o, none⟩) h⟩

theorem ba_eq {a b : ByteArray} : a.toList = b.toList ↔ a = b := by
  constructor
  · intro h
    rw [ByteArray.toList_eq, ByteArray.toList_eq] at h
    exact WideShapes.bytes_inj h
  · rintro rfl; rfl
theorem sum_perm {l l' : List Int} (h : l.Perm l') : l.sum = l'.sum := by
  induction h with
  | nil => rfl
  | cons x _ ih => simp [ih]
  | swap x y l => simp only [List.sum_cons]; omega
  | trans _ _ h1 h2 => exact h1.trans h2

/-! ### Blocks of cells -/
theorem blk_lt {w : World} {b : Nat} {o : Obj} (h : w.heap[b]? = some o) : b < w.heap.size := by
  rcases Nat.lt_or_ge b w.heap.size with h' | h'
  · exact h'
  · simp [Array.getElem?_eq_none h'] at h
theorem blk_cell {w : World} {b : Nat} {cs : Array Value} {t : TypeId} {fz : Nat × Nat} (h : w.heap[b]? = some (.cells cs t fz)) (i : Nat) : w.cell? ⟨b, i, none⟩ = cs[i]? := by simp [World.cell?, h]
theorem blk_free {w : World} {b : Nat} {cs : Array Value} {t : TypeId} (h : w.heap[b]? = some (.cells cs t (0, 0))) (i : Nat) : w.frozen? ⟨b, i, none⟩ = false := by simp [World.frozen?, h]
theorem blk_set {w : World} {b i : Nat} {cs : Array Value} {t : TypeId} {fz : Nat × Nat} (h : w.heap[b]? = some (.cells cs t fz)) (u : Value) :
    (w.setCell ⟨b, i, none⟩ u).heap[b]? = some (.cells (cs.setIfInBounds i u) t fz) := by
  simp [World.setCell, Array.getElem?_modify, h]
theorem blk_new (w : World) (o : Obj) : (w.alloc o).heap[w.heap.size]? = some o := by show (w.heap.push o)[w.heap.size]? = _; simp
theorem blk_old {w : World} {b : Nat} {o : Obj} (h : w.heap[b]? = some o) (o' : Obj) : (w.alloc o').heap[b]? = some o := by
  rw [Below.heap_alloc w o' b (blk_lt h)]; exact h
theorem blk_fr {S : List Nat} {w w' : World} {b : Nat} {o : Obj} (h : w.heap[b]? = some o) (hf : Fr S w w') (hn : b ∉ S) : w'.heap[b]? = some o := by rw [hf.block b (blk_lt h) hn]; exact h
theorem blk_below {B : Nat} {w w' : World} {b : Nat} {o : Obj} (h : w.heap[b]? = some o) (hf : Below B w w') (hn : b < B) : w'.heap[b]? = some o := by rw [hf.block b hn]; exact h

theorem ownBlock_ge {w : World} {B : Nat} {e : TypeId} {s : Nat} {v : Value} {n : Nat} {xs : List Value} (h : w.ownsRow B e s v n xs) {k : Nat} (hk : v.ownBlock = some k) : B ≤ k ∧ k < w.heap.size := by
  rcases h.2 with ⟨rfl, _⟩ | ⟨g, cp, cur, rfl, h1, h2, _⟩
  · cases hk
  · simp only [Value.ownBlock, Option.some.injEq] at hk
    subst hk
    exact ⟨h1, blk_lt h2⟩
/-- behind 'v = append(v, x)', v the call's own -/
theorem below_append {w w1 : World} {B : Nat} {e : TypeId} {s : Nat} {v : Value} {n : Nat} {xs : List Value} (h : w.ownsRow B e s v n xs) (hB : B ≤ w.heap.size) {o : Obj} (hg : (w.alloc o).grownBy w1 v.ownBlock) : Below B w w1 :=
  ((Below.refl _ w).alloc hB _).grown hg (by simp; omega) fun _ hk => (ownBlock_ge h hk).1
theorem ownsRow_shape {w : World} {B : Nat} {e : TypeId} {s : Nat} {v : Value} {n : Nat} {xs : List Value} (h : w.ownsRow B e s v n xs) : ∃ o cp, v = .slice o n cp := by
  rcases h.2 with ⟨rfl, rfl⟩ | ⟨g, cp, cur, rfl, _⟩
  · exact ⟨_, _, rfl⟩
  · exact ⟨_, _, rfl⟩
theorem ownsRow_lower {w : World} {B B' : Nat} {e : TypeId} {s : Nat} {v : Value} {n : Nat} {xs : List Value} (h : w.ownsRow B e s v n xs) (hB : B' ≤ B) : w.ownsRow B' e s v n xs :=
  ⟨h.1, h.2.imp id fun ⟨g, cp, cur, h1, h2, h3⟩ => ⟨g, cp, cur, h1, by omega, h3⟩⟩
theorem ownsRow_same {w w' : World} {B : Nat} {e : TypeId} {s : Nat} {v : Value} {n : Nat} {xs : List Value} (h : w.ownsRow B e s v n xs) (hb : ∀ k, B ≤ k → k < w.heap.size → w'.heap[k]? = w.heap[k]?) : w'.ownsRow B e s v n xs :=
  ⟨h.1, h.2.imp id fun ⟨g, cp, cur, h1, h2, h3, h4⟩ => ⟨g, cp, cur, h1, h2, (hb g h2 (blk_lt h3)).trans h3, h4⟩⟩

/-! ### Maps -/

/-- entries as pairs, in the order in which they were laid -/
def prs (es : Array MapEntry) : List (Value × Value) := es.toList.map fun e => (e.key, e.val)

def GoodK (P : Program) (k : TypeId) (v : Value) : Prop := ∃ l, keyOf P k v = some l

section
variable {α β : Type} [DecidableEq α]
/-- what a list of pairs has at a key -/
def lookA (m : List (α × β)) (k : α) : Option β := (m.find? fun p => decide (p.1 = k)).map (·.2)
/-- a list of pairs with another element at a key -/
def putA (m : List (α × β)) (k : α) (v : β) : List (α × β) := if m.any (fun p => decide (p.1 = k)) then m.map (fun p => if p.1 = k then (k, v) else p) else m ++ [(k, v)]
/-- a list of pairs without a key -/
def delA (m : List (α × β)) (k : α) : List (α × β) := m.filter fun p => !decide (p.1 = k)
end

/-- BLOCK b IS A MAP THAT HOLDS JUST THE PAIRS m (told by 'ek', 'ev'), in the order in which their keys were laid -/
def MapT {α β : Type} (P : Program) (k : TypeId) (ek : α → Value) (ev : β → Value) (w : World) (b : Nat) (m : List (α × β)) : Prop :=
  ∃ es clock, w.heap[b]? = some (.map es clock) ∧ Stamped es clock ∧ prs es = m.map (fun p => (ek p.1, ev p.2)) ∧ ∀ p ∈ m, GoodK P k (ek p.1)

section
variable {α β : Type} {P : Program} {k : TypeId} {ek : α → Value} {ev : β → Value} {w : World} {b : Nat} {m : List (α × β)}

theorem MapT.lt (h : MapT P k ek ev w b m) : b < w.heap.size := by obtain ⟨es, c, h, _⟩ := h; exact blk_lt h
theorem MapT.same (h : MapT P k ek ev w b m) {w' : World} (hb : w'.heap[b]? = w.heap[b]?) : MapT P k ek ev w' b m := by
  obtain ⟨es, c, h1, h2⟩ := h; exact ⟨es, c, hb.trans h1, h2⟩
theorem MapT.fr (h : MapT P k ek ev w b m) {S : List Nat} {w' : World} (hf : Fr S w w') (hn : b ∉ S) : MapT P k ek ev w' b m := h.same (hf.block b h.lt hn)
theorem MapT.below (h : MapT P k ek ev w b m) {B : Nat} {w' : World} (hf : Below B w w') (hn : b < B) : MapT P k ek ev w' b m := h.same (hf.block b hn)
theorem MapT.alloc (h : MapT P k ek ev w b m) (o : Obj) : MapT P k ek ev (w.alloc o) b m := h.same (Below.heap_alloc w o b h.lt)
theorem MapT.drewN (h : MapT P k ek ev w b m) (n : Nat) : MapT P k ek ev (w.drewN n) b m := h
theorem MapT.drew (h : MapT P k ek ev w b m) : MapT P k ek ev w.drew b m := h
theorem MapT.setCell (h : MapT P k ek ev w b m) {p : Addr} (hp : b ≠ p.block) (u : Value) : MapT P k ek ev (w.setCell p u) b m := h.same (Below.heap_setCell w p u b hp)
theorem MapT_made (P : Program) (k : TypeId) (ek : α → Value) (ev : β → Value) (w : World) : MapT P k ek ev (w.alloc (.map #[] 0)) w.heap.size [] :=
  ⟨#[], 0, blk_new w _, stamped_empty 0, rfl, by simp⟩

theorem MapT.nodup (h : MapT P k ek ev w b m) : (m.map fun p => ek p.1).Nodup := by
  obtain ⟨es, c, _, h2, h3, _⟩ := h
  have e : es.toList.map (·.key) = m.map fun p => ek p.1 := by
    have := congrArg (List.map Prod.fst) h3
    simpa [prs, List.map_map, Function.comp_def] using this
  rw [← e]; exact h2.2.2
theorem MapT.keys (h : MapT P k ek ev w b m) : (m.map (·.1)).Nodup := by
  have := h.nodup
  rw [show (m.map fun p => ek p.1) = (m.map (·.1)).map ek from by simp [List.map_map, Function.comp_def]] at this
  refine (List.pairwise_map.1 this).imp fun hne e => hne (by rw [e])

theorem prs_len {es : Array MapEntry} (h : prs es = m.map (fun p => (ek p.1, ev p.2))) : es.size = m.length := by
  have := congrArg List.length h
  simpa [prs] using this

/-- an entry by its place -/
theorem prs_at {es : Array MapEntry} (h : prs es = m.map (fun p => (ek p.1, ev p.2))) {j : Nat} {e : MapEntry} (he : es.toList[j]? = some e) : ∃ p, m[j]? = some p ∧ e.key = ek p.1 ∧ e.val = ev p.2 := by
  have h1 : (prs es)[j]? = some (e.key, e.val) := by simp [prs, he]
  rw [h] at h1
  simp only [List.getElem?_map, Option.map_eq_some_iff] at h1
  obtain ⟨p, hp, hq⟩ := h1
  exact ⟨p, hp, (congrArg Prod.fst hq).symm, (congrArg Prod.snd hq).symm⟩
theorem prs_mem {es : Array MapEntry} (h : prs es = m.map (fun p => (ek p.1, ev p.2))) {e : MapEntry} (he : e ∈ es.toList) : ∃ p ∈ m, e.key = ek p.1 ∧ e.val = ev p.2 := by
  obtain ⟨j, hj⟩ := List.mem_iff_getElem?.1 he
  obtain ⟨p, hp, h1, h2⟩ := prs_at h hj
  exact ⟨p, List.mem_of_getElem? hp, h1, h2⟩
theorem prs_mem' {es : Array MapEntry} (h : prs es = m.map (fun p => (ek p.1, ev p.2))) {p : α × β} (hp : p ∈ m) : ∃ e ∈ es.toList, e.key = ek p.1 ∧ e.val = ev p.2 := by
  have : (ek p.1, ev p.2) ∈ prs es := by rw [h]; exact List.mem_map.2 ⟨p, hp, rfl⟩
  obtain ⟨e, he, e2⟩ := List.mem_map.1 this
  exact ⟨e, he, congrArg Prod.fst e2, congrArg Prod.snd e2⟩

variable [DecidableEq α]

theorem lookA_none {m : List (α × β)} {key : α} (h : ∀ p ∈ m, p.1 ≠ key) : lookA m key = none := by
  simp only [lookA, Option.map_eq_none_iff, List.find?_eq_none]
  intro p hp; simpa using h p hp
theorem lookA_some {m : List (α × β)} {key : α} (hnd : (m.map (·.1)).Nodup) {j : Nat} {p : α × β} (hj : m[j]? = some p) (hk : p.1 = key) : lookA m key = some p.2 := by
  have hmem := List.mem_of_getElem? hj
  have : m.find? (fun q => decide (q.1 = key)) = some p := by
    obtain ⟨l1, l2, rfl⟩ := List.append_of_mem hmem
    rw [List.find?_append]
    have h0 : l1.find? (fun q => decide (q.1 = key)) = none := by
      rw [List.find?_eq_none]
      intro q hq
      simp only [List.map_append, List.map_cons] at hnd
      have := (List.nodup_append.1 hnd).2.2 q.1 (List.mem_map.2 ⟨q, hq, rfl⟩) p.1 (by simp)
      simp; rw [← hk]; exact this
    rw [h0]; simp [hk]
  simp [lookA, this]
theorem lookA_mem {m : List (α × β)} {key : α} (hnd : (m.map (·.1)).Nodup) {p : α × β} (hp : p ∈ m) (hk : p.1 = key) : lookA m key = some p.2 := by
  obtain ⟨j, hj⟩ := List.mem_iff_getElem?.1 hp
  exact lookA_some hnd hj hk

omit [DecidableEq α] in
theorem MapT.find (h : MapT P k ek ev w b m) (K : Keyed P k) (inj : ∀ x y, ek x = ek y → x = y) {key : α} (hkey : GoodK P k (ek key)) {es : Array MapEntry} {c : Nat} (hb : w.heap[b]? = some (.map es c)) :
    ((Instr.findKey k (ek key) es.toList).run P w = .ok none w ∧ (∀ p ∈ m, p.1 ≠ key) ∧ ∀ e ∈ es.toList, e.key ≠ ek key) ∨
    ∃ j e v, (Instr.findKey k (ek key) es.toList).run P w = .ok (some (j, ev v)) w ∧ es.toList[j]? = some e ∧ e.key = ek key ∧ e.val = ev v ∧ m[j]? = some (key, v) := by
  obtain ⟨es', c', h1, h2, h3, h4⟩ := h
  rw [hb] at h1
  obtain ⟨rfl, rfl⟩ : es = es' ∧ c = c' := by simpa using h1
  obtain ⟨lx, hlx⟩ := hkey
  have hg : ∀ e ∈ es.toList, ∃ l, keyOf P k e.key = some l := fun e he => by
    obtain ⟨p, hp, e1, _⟩ := prs_mem h3 he
    rw [e1]; exact h4 p hp
  rcases K.find w hlx es.toList hg with ⟨f1, f2⟩ | ⟨j, e, f1, f2, f3⟩
  · refine .inl ⟨f1, fun p hp e => ?_, f2⟩
    obtain ⟨x, hx, e1, _⟩ := prs_mem' h3 hp
    exact f2 x hx (by rw [e1, e])
  · obtain ⟨p, hp, e1, e2⟩ := prs_at h3 f2
    have : p.1 = key := inj _ _ (by rw [← e1, f3])
    refine .inr ⟨j, e, p.2, by rw [f1, e2], f2, f3, e2, ?_⟩
    rw [hp, ← this]

/-- 'm[k]', 'v, ok := m[k]' -/
theorem MapT.lookup (h : MapT P k ek ev w b m) (K : Keyed P k) (inj : ∀ x y, ek x = ek y → x = y) {t e : TypeId} (ht : P.underlying t = some (.map k e)) {z : Value} (hz : (zeroValue e).run P w = .ok z w)
    {key : α} (hkey : GoodK P k (ek key)) (c : Bool) :
    (Instr.lookup t (.map (some b)) (ek key) c).run P w = .ok (if c then .tuple #[((lookA m key).map ev).getD z, .bool (lookA m key).isSome] else ((lookA m key).map ev).getD z) w := by
  have h' := h
  obtain ⟨es, clock, hb, h2, h3, h4⟩ := h
  obtain ⟨lx, hlx⟩ := hkey
  rcases h'.find K inj ⟨lx, hlx⟩ hb with ⟨f1, f2, _⟩ | ⟨j, e0, v, f1, f2, f3, f4, f5⟩
  · rw [lookA_none f2]
    cases c <;> simp [Instr.lookup, run_underlying ht, MapKept.run_getObj_map hb, K.check w _ hlx, f1, hz, Result.andThen]
  · rw [lookA_some h'.keys f5 rfl]
    cases c <;> simp [Instr.lookup, run_underlying ht, MapKept.run_getObj_map hb, K.check w _ hlx, f1, Result.andThen]

theorem putA_new {m : List (α × β)} {key : α} (h : ∀ p ∈ m, p.1 ≠ key) (v : β) : putA m key v = m ++ [(key, v)] := by
  unfold putA
  rw [if_neg]
  simp only [List.any_eq_true, not_exists, not_and]
  intro p hp
  simpa using h p hp
theorem putA_old {m : List (α × β)} {key : α} (hnd : (m.map (·.1)).Nodup) {j : Nat} {u : β} (hj : m[j]? = some (key, u)) (v : β) : putA m key v = m.set j (key, v) := by
  unfold putA
  rw [if_pos (List.any_eq_true.2 ⟨_, List.mem_of_getElem? hj, by simp⟩)]
  obtain ⟨hl, hj'⟩ := List.getElem?_eq_some_iff.1 hj
  refine List.ext_getElem (by simp) fun i h1 h2 => ?_
  rw [List.getElem_map, List.getElem_set]
  have hi : i < m.length := by simpa using h1
  by_cases e : j = i
  · subst e
    rw [if_pos (by rw [hj']), if_pos rfl]
  · rw [if_neg e, if_neg]
    intro e2
    have h3 : (m.map (·.1))[i]'(by simpa using hi) = (m.map (·.1))[j]'(by simpa using hl) := by simp [hj', e2]
    exact e ((List.getElem_inj hnd).1 h3).symm

theorem set_new {es : Array MapEntry} {clock : Nat} {j : Nat} {e : MapEntry} (he : es.toList[j]? = some e) (key val : Value) (hk : e.key = key) (h2 : Stamped es clock) :
    Stamped (es.modify j fun e' => { e' with key := key, val := val }) clock ∧ prs (es.modify j fun e' => { e' with key := key, val := val }) = (prs es).set j (key, val) := by
  have hj : es[j]? = some e := by simpa using he
  refine ⟨stamped_modify h2 _ _ (fun _ _ => rfl) (fun e' _ he' => by rw [hj] at he'; cases he'; exact hk.symm), ?_⟩
  unfold prs
  rw [Array.toList_modify, modify_eq_set _ _ _ _ he, List.map_set]

/-- 'm[k] = v' -/
theorem MapT.update (h : MapT P k ek ev w b m) (K : Keyed P k) (inj : ∀ x y, ek x = ek y → x = y) {t e : TypeId} (ht : P.underlying t = some (.map k e))
    {key : α} (hkey : GoodK P k (ek key)) (v : β) :
    ∃ es' c', (Instr.mapUpdate t (.map (some b)) (ek key) (ev v)).run P w = .ok () (setBlock w b (.map es' c')) ∧ MapT P k ek ev (setBlock w b (.map es' c')) b (putA m key v) := by
  have h' := h
  obtain ⟨es, clock, hb, h2, h3, h4⟩ := h
  obtain ⟨lx, hlx⟩ := hkey
  have hset : ∀ o', (setBlock w b o').heap[b]? = some o' := fun o' => by simp [setBlock, blk_lt hb]
  rcases h'.find K inj ⟨lx, hlx⟩ hb with ⟨f1, f2, f3⟩ | ⟨j, e0, u, f1, f2, f3, f4, f5⟩
  · refine ⟨es.push ⟨ek key, ev v, clock⟩, clock + 1, ?_, es.push ⟨ek key, ev v, clock⟩, clock + 1, hset _, stamped_push h2 f3, ?_, ?_⟩
    · simp [Instr.mapUpdate, run_underlying ht, MapKept.run_getObj_map hb, K.check w false hlx, f1, MapKept.run_setObj_map _ hb, Result.andThen, setBlock]
    · rw [putA_new f2, List.map_append, ← h3]; simp [prs]
    · rw [putA_new f2]
      intro p hp
      rcases List.mem_append.1 hp with hp | hp
      · exact h4 p hp
      · obtain rfl := List.mem_singleton.1 hp; exact ⟨lx, hlx⟩
  · have hj : es[j]? = some e0 := by simpa using f2
    obtain ⟨s1, s2⟩ := set_new f2 (ek key) (ev v) f3 h2
    refine ⟨es.modify j (fun e' => { e' with key := ek key, val := ev v }), clock, ?_, es.modify j (fun e' => { e' with key := ek key, val := ev v }), clock, hset _, s1, ?_, ?_⟩
    · simp [Instr.mapUpdate, run_underlying ht, MapKept.run_getObj_map hb, K.check w false hlx, f1, hj, f3, K.stays w hlx, MapKept.run_setObj_map _ hb, Result.andThen, setBlock]
    · rw [s2, putA_old h'.keys f5, h3, List.map_set]
    · rw [putA_old h'.keys f5]
      intro p hp
      rcases List.mem_or_eq_of_mem_set hp with hp | rfl
      · exact h4 p hp
      · exact ⟨lx, hlx⟩

/-- 'm[k] op= v', first half: the entry is there behind it; its stamp -/
theorem MapT.entry (h : MapT P k ek ev w b m) (K : Keyed P k) (inj : ∀ x y, ek x = ek y → x = y) {t e : TypeId} (ht : P.underlying t = some (.map k e)) {z : β} (hz : (zeroValue e).run P w = .ok (ev z) w)
    {key : α} (hkey : GoodK P k (ek key)) :
    ∃ es' c' s, (Instr.mapEntry t (.map (some b)) (ek key)).run P w = .ok (.tuple #[ev ((lookA m key).getD z), .int .i64 (s : Nat)]) (setBlock w b (.map es' c')) ∧
      MapT P k ek ev (setBlock w b (.map es' c')) b (putA m key ((lookA m key).getD z)) ∧
      ∀ (w' : World), w'.heap[b]? = some (.map es' c') → ∀ v : β, ∃ es'', (Instr.entryStore t (.map (some b)) (.int .i64 (s : Nat)) (ev v)).run P w' = .ok () (setBlock w' b (.map es'' c')) ∧ MapT P k ek ev (setBlock w' b (.map es'' c')) b (putA m key v) := by
  have h' := h
  obtain ⟨es, clock, hb, h2, h3, h4⟩ := h
  obtain ⟨lx, hlx⟩ := hkey
  have hset : ∀ (w' : World) o' o'', w'.heap[b]? = some o' → (setBlock w' b o'').heap[b]? = some o'' := fun w' o' o'' hb' => by simp [setBlock, blk_lt hb']
  rcases h'.find K inj ⟨lx, hlx⟩ hb with ⟨f1, f2, f3⟩ | ⟨j, e0, u, f1, f2, f3, f4, f5⟩
  · refine ⟨es.push ⟨ek key, ev z, clock⟩, clock + 1, clock, ?_, ⟨es.push ⟨ek key, ev z, clock⟩, clock + 1, hset _ _ _ hb, stamped_push h2 f3, ?_, ?_⟩, fun w' hb' v => ?_⟩
    · rw [lookA_none f2]
      simp [Instr.mapEntry, run_underlying ht, MapKept.run_getObj_map hb, K.check w false hlx, f1, hz, MapKept.run_setObj_map _ hb, Result.andThen, setBlock, goInt]
    · rw [lookA_none f2, putA_new f2, List.map_append, ← h3]; simp [prs]
    · rw [putA_new f2]
      intro p hp
      rcases List.mem_append.1 hp with hp | hp
      · exact h4 p hp
      · obtain rfl := List.mem_singleton.1 hp; exact ⟨lx, hlx⟩
    · have hfi : (es.push ⟨ek key, ev z, clock⟩).findIdx? (fun e => (e.born : Int) == (clock : Nat)) = some es.size := by
        rw [Array.findIdx?_eq_some_iff_getElem]
        refine ⟨by simp, by simp, fun j hj => ?_⟩
        have hj' : j < es.size := hj
        rw [Array.getElem_push_lt hj']
        have := h2.1 es[j] (by simp)
        simp; omega
      have hmod : (es.push ⟨ek key, ev z, clock⟩).modify es.size (fun e => { e with val := ev v }) = es.push ⟨ek key, ev v, clock⟩ := by
        apply Array.ext_getElem?
        intro i
        simp only [Array.getElem?_modify, Array.getElem?_push]
        by_cases e : es.size = i
        · subst e; simp
        · simp [e, Ne.symm e]
      refine ⟨es.push ⟨ek key, ev v, clock⟩, ?_, es.push ⟨ek key, ev v, clock⟩, clock + 1, hset _ _ _ hb', stamped_push h2 f3, ?_, ?_⟩
      · simp [Instr.entryStore, MapKept.run_getObj_map hb', asInt, asIntOf, hfi, hmod, MapKept.run_setObj_map _ hb', Result.andThen, setBlock]
      · rw [putA_new f2, List.map_append, ← h3]; simp [prs]
      · rw [putA_new f2]
        intro p hp
        rcases List.mem_append.1 hp with hp | hp
        · exact h4 p hp
        · obtain rfl := List.mem_singleton.1 hp; exact ⟨lx, hlx⟩
  · have hj : es[j]? = some e0 := by simpa using f2
    have hsame : es.modify j (fun e' => { e' with key := ek key }) = es := by
      apply Array.ext_getElem?
      intro i
      simp only [Array.getElem?_modify]
      by_cases e : j = i
      · subst e; simp [hj, ← f3]
      · simp [e]
    have hmu : putA m key u = m := by
      rw [putA_old h'.keys f5]
      obtain ⟨hl, hj'⟩ := List.getElem?_eq_some_iff.1 f5
      rw [← hj', List.set_getElem_self]
    refine ⟨es, clock, e0.born, ?_, ⟨es, clock, hset _ _ _ hb, h2, ?_, ?_⟩, fun w' hb' v => ?_⟩
    · rw [lookA_some h'.keys f5 rfl]
      have hk0 : ((es[j]?).map (·.key)).getD (ek key) = ek key := by simp [hj, f3]
      simp [Instr.mapEntry, run_underlying ht, MapKept.run_getObj_map hb, K.check w false hlx, f1, hj, f3, K.stays w hlx, hsame, MapKept.run_setObj_map _ hb, Result.andThen, setBlock, goInt]
    · rw [lookA_some h'.keys f5 rfl, Option.getD_some, hmu]; exact h3
    · rw [lookA_some h'.keys f5 rfl, Option.getD_some, hmu]; exact h4
    · obtain ⟨hjl, hj2⟩ := Array.getElem?_eq_some_iff.1 hj
      have hfi : es.findIdx? (fun e => (e.born : Int) == (e0.born : Nat)) = some j := by
        rw [Array.findIdx?_eq_some_iff_getElem]
        refine ⟨hjl, by simp [hj2], fun i hi => ?_⟩
        have hil : i < es.size := by omega
        have hne : es[i].born ≠ e0.born := by
          intro e
          have h5 : (es.toList.map (·.born))[i]'(by simpa using hil) = (es.toList.map (·.born))[j]'(by simpa using hjl) := by simp [e, hj2]
          have := (List.getElem_inj h2.2.1).1 h5
          omega
        simp; omega
      obtain ⟨s1, s2⟩ := set_new f2 (ek key) (ev v) f3 h2
      have hmod : es.modify j (fun e => { e with val := ev v }) = es.modify j (fun e' => { e' with key := ek key, val := ev v }) := by
        apply Array.ext_getElem?
        intro i
        simp only [Array.getElem?_modify]
        by_cases e : j = i
        · subst e; simp [hj, f3]
        · simp [e]
      refine ⟨es.modify j (fun e' => { e' with key := ek key, val := ev v }), ?_, es.modify j (fun e' => { e' with key := ek key, val := ev v }), clock, hset _ _ _ hb', s1, ?_, ?_⟩
      · simp [Instr.entryStore, MapKept.run_getObj_map hb', asInt, asIntOf, hfi, hmod, MapKept.run_setObj_map _ hb', Result.andThen, setBlock]
      · rw [s2, putA_old h'.keys f5, h3, List.map_set]
      · rw [putA_old h'.keys f5]
        intro p hp
        rcases List.mem_or_eq_of_mem_set hp with hp | rfl
        · exact h4 p hp
        · exact ⟨lx, hlx⟩

theorem frSetBlock {w : World} {b : Nat} (o : Obj) : Fr [b] w (setBlock w b o) :=
  ⟨rfl, rfl, rfl, by simp [setBlock], fun i hi hn => by
    have : b ≠ i := fun e => hn (by simp [e])
    simp [setBlock, Array.getElem?_setIfInBounds_ne this]⟩
theorem sizeSetBlock (w : World) (b : Nat) (o : Obj) : (setBlock w b o).heap.size = w.heap.size := by simp [setBlock]

theorem lookA_putA_same (m : List (α × β)) (key : α) (v : β) : lookA (putA m key v) key = some v := by
  unfold putA
  split
  · rename_i h
    obtain ⟨p, hp, hk⟩ := List.any_eq_true.1 h
    simp only [lookA, Option.map_eq_some_iff]
    have : ((m.map fun p => if p.1 = key then (key, v) else p).find? fun p => decide (p.1 = key)) = some (key, v) := by
      rw [List.find?_map, Option.map_eq_some_iff]
      have hf : ((fun p : α × β => decide (p.1 = key)) ∘ fun p => if p.1 = key then (key, v) else p) = fun p => decide (p.1 = key) := by
        funext q
        simp only [Function.comp]
        split
        · rename_i e; simp [e]
        · rfl
      rw [hf]
      cases hq : m.find? (fun p => decide (p.1 = key)) with
      | none => exact absurd hk (by have := List.find?_eq_none.1 hq p hp; simpa using this)
      | some q =>
        have := List.find?_some hq
        simp at this
        exact ⟨q, rfl, by simp [this]⟩
    exact ⟨_, this, rfl⟩
  · rename_i h
    have : m.find? (fun p => decide (p.1 = key)) = none := by
      rw [List.find?_eq_none]
      intro q hq e
      exact h (List.any_eq_true.2 ⟨q, hq, e⟩)
    simp [lookA, List.find?_append, this]
theorem lookA_putA_other (m : List (α × β)) {key key' : α} (hne : key' ≠ key) (v : β) : lookA (putA m key v) key' = lookA m key' := by
  unfold putA
  split
  · simp only [lookA]
    rw [List.find?_map]
    have hf : ((fun p : α × β => decide (p.1 = key')) ∘ fun p => if p.1 = key then (key, v) else p) = fun p => decide (p.1 = key') := by
      funext q
      simp only [Function.comp]
      split
      · rename_i e; simp [e]
      · rfl
    rw [hf]
    cases hq : m.find? (fun p => decide (p.1 = key')) with
    | none => rfl
    | some q =>
      have := List.find?_some hq
      simp at this
      simp [this, hne]
  · simp [lookA, List.find?_append, Ne.symm hne]
theorem lookA_putA (m : List (α × β)) (key key' : α) (v : β) : lookA (putA m key v) key' = if key' = key then some v else lookA m key' := by
  split
  · rename_i e; rw [e]; exact lookA_putA_same m key v
  · rename_i e; exact lookA_putA_other m e v

/-- 'm[k] op= v': what each of its operations does, in the worlds in which it may be run -/
theorem MapT.opAssign (h : MapT P k ek ev w b m) (K : Keyed P k) (inj : ∀ x y, ek x = ek y → x = y) {t e : TypeId} (ht : P.underlying t = some (.map k e)) {z : β} (hz : ∀ W : World, (zeroValue e).run P W = .ok (ev z) W)
    {key : α} (hkey : GoodK P k (ek key)) (old : β) (hold : (lookA m key).getD z = old) (v : β) :
    ∃ (W1 W2 : World) (s : Nat), (Instr.lookup t (.map (some b)) (ek key) false).run P w = .ok (ev old) w ∧ (Instr.lookup t (.map (some b)) (ek key) false).run P W1 = .ok (ev old) W1 ∧
      (Instr.mapEntry t (.map (some b)) (ek key)).run P w = .ok (.tuple #[ev old, .int .i64 (s : Nat)]) W1 ∧ (Instr.entryStore t (.map (some b)) (.int .i64 (s : Nat)) (ev v)).run P W1 = .ok () W2 ∧
      MapT P k ek ev W2 b (putA m key v) ∧ Fr [b] w W1 ∧ Fr [b] w W2 ∧ W1.heap.size = w.heap.size ∧ W2.heap.size = w.heap.size := by
  subst hold
  have hl0 := h.lookup K inj ht (hz w) hkey false
  obtain ⟨es', c', s, he, hm1, hst⟩ := h.entry K inj ht (hz w) hkey
  have hl1 := hm1.lookup K inj ht (hz _) hkey false
  obtain ⟨es'', h1, h2⟩ := hst (setBlock w b (.map es' c')) (by simp [setBlock, h.lt]) v
  rw [lookA_putA_same] at hl1
  have e0 : ((lookA m key).map ev).getD (ev z) = ev ((lookA m key).getD z) := by cases lookA m key <;> rfl
  refine ⟨_, _, s, ?_, ?_, he, h1, h2, frSetBlock _, (frSetBlock _).trans (frSetBlock _) (fun x hx => .inl hx) (fun x hx => .inl hx), sizeSetBlock _ _ _, (sizeSetBlock _ _ _).trans (sizeSetBlock _ _ _)⟩
  · simpa [e0] using hl0
  · exact hl1

omit [DecidableEq α] in
theorem MapT.len (h : MapT P k ek ev w b m) {t e : TypeId} (ht : P.underlying t = some (.map k e)) (ty : TypeId) : (Builtin.len_ #[t] ty #[.map (some b)]).run P w = .ok (.int .i64 m.length) w := by
  obtain ⟨es, c, hb, h2, h3, h4⟩ := h
  simp [Builtin.len_, run_underlying ht, MapKept.run_getObj_map hb, Result.andThen, goInt, prs_len h3]

/-! ### Ranging over a map that nobody writes meanwhile -/

/-- block r is an iterator over the map b, which holds m; 'vis': what has come so far; 'rest': what is still to come, in some order -/
def IterT {α β : Type} (P : Program) (k : TypeId) (ek : α → Value) (ev : β → Value) (w : World) (r b : Nat) (m vis rest : List (α × β)) : Prop :=
  ∃ es clock since seen, w.heap[b]? = some (.map es clock) ∧ Stamped es clock ∧ prs es = m.map (fun p => (ek p.1, ev p.2)) ∧ (∀ p ∈ m, GoodK P k (ek p.1)) ∧
    w.heap[r]? = some (.mapIter (some b) since seen clock) ∧ (∀ x ∈ es.toList, x.born < since) ∧ since ≤ clock ∧
    (vis ++ rest).Perm m ∧ (prs (leftOf es seen)).Perm (rest.map fun p => (ek p.1, ev p.2))

section
omit [DecidableEq α]
variable {vis rest : List (α × β)} {r : Nat}
theorem IterT.same (h : IterT P k ek ev w r b m vis rest) {w' : World} (hb : w'.heap[b]? = w.heap[b]?) (hr : w'.heap[r]? = w.heap[r]?) : IterT P k ek ev w' r b m vis rest := by
  obtain ⟨es, c, since, seen, h1, h2, h3, h4, h5, h6⟩ := h
  exact ⟨es, c, since, seen, hb.trans h1, h2, h3, h4, hr.trans h5, h6⟩
theorem IterT.owns (h : IterT P k ek ev w r b m vis rest) : MapT P k ek ev w b m := by
  obtain ⟨es, c, since, seen, h1, h2, h3, h4, h5, h6⟩ := h
  exact ⟨es, c, h1, h2, h3, h4⟩
theorem IterT.lt (h : IterT P k ek ev w r b m vis rest) : r < w.heap.size ∧ b < w.heap.size ∧ r ≠ b := by
  obtain ⟨es, c, since, seen, h1, h2, h3, h4, h5, h6⟩ := h
  refine ⟨blk_lt h5, blk_lt h1, ?_⟩
  rintro rfl
  rw [h1] at h5
  cases h5
theorem IterT.fr (h : IterT P k ek ev w r b m vis rest) {S : List Nat} {w' : World} (hf : Fr S w w') (hb : b ∉ S) (hr : r ∉ S) : IterT P k ek ev w' r b m vis rest :=
  h.same (hf.block b h.lt.2.1 hb) (hf.block r h.lt.1 hr)
theorem IterT.perm (h : IterT P k ek ev w r b m vis rest) : (vis ++ rest).Perm m := by
  obtain ⟨es, c, since, seen, h1, h2, h3, h4, h5, h6, h7, h8, h9⟩ := h
  exact h8
theorem IterT.len (h : IterT P k ek ev w r b m vis rest) : vis.length + rest.length = m.length := by simpa using h.perm.length_eq

/-- 'range m' -/
theorem MapT.range (h : MapT P k ek ev w b m) {t e : TypeId} (ht : P.underlying t = some (.map k e)) :
    ∃ c, (Instr.range t (.map (some b))).run P w = .ok (.pointer (some ⟨w.heap.size, 0, none⟩)) (w.alloc (.mapIter (some b) c #[] c)) ∧ IterT P k ek ev (w.alloc (.mapIter (some b) c #[] c)) w.heap.size b m [] m := by
  obtain ⟨es, c, hb, h2, h3, h4⟩ := h
  refine ⟨c, run_range_map w t k e b es c ht hb, es, c, c, #[], blk_old hb _, h2, h3, h4, blk_new w _, h2.1, Nat.le_refl _, by simp, ?_⟩
  rw [← h3]
  have : leftOf es #[] = es := Array.filter_eq_self.2 fun x _ => by simp
  rw [this]

/-- THE STEP: nothing is left; or one more pair has come -/
theorem IterT.next (h : IterT P k ek ev w r b m vis rest) (ty : TypeId) :
    (rest = [] ∧ (Instr.next (.pointer (some ⟨r, 0, none⟩)) false ty).run P w = .ok (.tuple #[.bool false]) w) ∨
    ∃ p r1 r2 w', rest = r1 ++ p :: r2 ∧ (Instr.next (.pointer (some ⟨r, 0, none⟩)) false ty).run P w = .ok (.tuple #[.bool true, ek p.1, ev p.2]) w' ∧
      IterT P k ek ev w' r b m (vis ++ [p]) (r1 ++ r2) ∧ Fr [r] w w' ∧ w'.heap.size = w.heap.size ∧
      ∀ (w'' : World), w''.heap[r]? = w'.heap[r]? → w''.heap[b]? = w'.heap[b]? → (Instr.entry (.pointer (some ⟨r, 0, none⟩))).run P w'' = .ok (.tuple #[ek p.1, ev p.2]) w'' := by
  have hlt := h.lt
  obtain ⟨es, clock, since, seen, hb, h2, h3, h4, hr, hold, hsc, hp, hl⟩ := h
  rcases run_next_at (P := P) w ty r b since clock seen es clock hr hb hold hsc with ⟨h0, hrun⟩ | ⟨e, he, w1, hal, hrun⟩
  · refine .inl ⟨?_, hrun⟩
    have h5 : prs (leftOf es seen) = [] := by
      have : (leftOf es seen) = #[] := Array.eq_empty_of_size_eq_zero h0
      simp [prs, this]
    rw [h5] at hl
    have := hl.length_eq
    simp at this
    exact List.eq_nil_of_length_eq_zero this.symm
  · obtain ⟨hem, hes⟩ := mem_left he
    have hmem : (e.key, e.val) ∈ rest.map fun p => (ek p.1, ev p.2) := hl.mem_iff.1 (List.mem_map.2 ⟨e, he, rfl⟩)
    obtain ⟨p, hpr, hpe⟩ := List.mem_map.1 hmem
    have hk : ek p.1 = e.key := congrArg Prod.fst hpe
    have hv : ev p.2 = e.val := congrArg Prod.snd hpe
    obtain ⟨r1, r2, hrest⟩ := List.append_of_mem hpr
    have hr1 : w1.heap[r]? = some (.mapIter (some b) since seen clock) := by rcases hal with rfl | rfl <;> exact hr
    have hb1 : w1.heap[b]? = some (.map es clock) := by rcases hal with rfl | rfl <;> exact hb
    have hset := heap_set (o' := .mapIter (some b) since (seen.push e.born) clock) hr1
    have hb' : (setBlock w1 r (.mapIter (some b) since (seen.push e.born) clock)).heap[b]? = some (.map es clock) := (hset.2 b (fun e1 => hlt.2.2 e1.symm)).trans hb1
    have hsz : (setBlock w1 r (.mapIter (some b) since (seen.push e.born) clock)).heap.size = w.heap.size := by rcases hal with rfl | rfl <;> simp [setBlock]
    refine .inr ⟨p, r1, r2, _, hrest, by rw [hk, hv]; exact hrun, ⟨es, clock, since, seen.push e.born, hb', h2, h3, h4, hset.1, hold, hsc, ?_, ?_⟩, ?_, hsz, fun w'' hr'' hb'' => ?_⟩
    · refine List.Perm.trans ?_ hp
      rw [hrest]
      simp only [List.append_assoc, List.singleton_append]
      exact List.Perm.append_left vis List.perm_middle.symm
    · have hL : (leftOf es seen).toList.Perm (e :: (leftOf es (seen.push e.born)).toList) := by
        have hn : ((leftOf es seen).toList.map (·.born)).Nodup := by
          refine List.Sublist.nodup (List.Sublist.map _ ?_) h2.2.1
          simp only [leftOf, Array.toList_filter]
          exact List.filter_sublist
        have e1 : (leftOf es (seen.push e.born)).toList = (leftOf es seen).toList.filter (fun x => !(x.born == e.born)) := by
          simp only [leftOf, Array.toList_filter, List.filter_filter]
          refine List.filter_congr fun x _ => ?_
          rw [contains_push]
          cases seen.contains x.born <;> cases (x.born == e.born) <;> rfl
        rw [e1]
        generalize (leftOf es seen).toList = L at he hn
        obtain ⟨l1, l2, rfl⟩ := List.append_of_mem he
        simp only [List.map_append, List.map_cons] at hn
        have hn' := List.nodup_append.1 hn
        have f1 : l1.filter (fun x => !(x.born == e.born)) = l1 := List.filter_eq_self.2 fun x hx => by
          have := hn'.2.2 x.born (List.mem_map.2 ⟨x, hx, rfl⟩) e.born (by simp)
          simpa using this
        have f2 : l2.filter (fun x => !(x.born == e.born)) = l2 := List.filter_eq_self.2 fun x hx => by
          have := (List.nodup_cons.1 hn'.2.1).1
          have h9 : x.born ≠ e.born := fun e9 => this (by rw [← e9]; exact List.mem_map.2 ⟨x, hx, rfl⟩)
          simpa using h9
        rw [List.filter_append, f1, List.filter_cons]
        simp only [beq_self_eq_true, Bool.not_true, Bool.false_eq_true, if_false, f2]
        exact List.perm_middle
      have h6 := (hL.map fun e : MapEntry => (e.key, e.val)).symm.trans hl
      rw [hrest] at h6
      simp only [List.map_append, List.map_cons] at h6 ⊢
      have h7 := h6.trans List.perm_middle
      rw [hk, hv] at h7
      exact h7.cons_inv
    · rcases hal with rfl | rfl
      · exact frSetBlock _
      · exact ((Fr.refl [] w).drew.trans (frSetBlock _) (by simp) (fun x hx => .inl hx))
    · rw [hk, hv]
      exact run_entry_at _ r b since seen es clock e (hr''.trans hset.1) (hb''.trans hb') hem ((stamped_iff es clock).1 h2).2.1
end

end
end Go.Proofs.Ytmddlbgdmdepdaa.CK
