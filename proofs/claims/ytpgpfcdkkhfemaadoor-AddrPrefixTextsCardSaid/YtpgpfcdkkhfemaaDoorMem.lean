/-
  Memory in a few words: 'Ext w w'': what lay in w lies in w' as it did; 'row w g': the cells of block g; 'isV w g t n': block g is a variable of type t with n cells, none frozen; 'At w A size es': from address A on lie the elements es, each of 'size' cells.
-/
import Derived.Below
import Derived.Laws.Rows
import Derived.Laws.CopyRow
import Derived.WalkKit
import Derived.Laws.StructEq
import Derived.Laws.ResultCell
namespace Go.Gu
set_option linter.unusedSimpArgs false
set_option linter.unusedVariables false
open Go Go.RowKit

/-- What lay in w lies in w' as it did. -/
def Ext (w w' : World) : Prop := Below w.heap.size w w'
theorem Ext.refl (w : World) : Ext w w := Below.refl _ _
theorem Ext.trans {a b c : World} (h : Ext a b) (k : Ext b c) : Ext a c := Below.trans h (Below.mono k h.size)
theorem Ext.size {a b : World} (h : Ext a b) : a.heap.size ≤ b.heap.size := Below.size h
theorem Ext.drew {a b : World} (h : Ext a b) : Ext a b.drew := Below.drew h
theorem Ext.alloc {a b : World} (h : Ext a b) (o : Obj) : Ext a (b.alloc o) := Below.alloc h h.size o
theorem Ext.of_alloc (a : World) (o : Obj) : Ext a (a.alloc o) := (Ext.refl a).alloc o
theorem Ext.block {a b : World} (h : Ext a b) {g : Nat} (hg : g < a.heap.size) : b.heap[g]? = a.heap[g]? := Below.block h g hg
theorem Ext.cell {a b : World} (h : Ext a b) {p : Addr} {v : Value} (hc : a.cell? p = some v) : b.cell? p = some v := (Below.cell h (block_lt_of_cell hc)).trans hc
theorem Ext.setCell {a b : World} (h : Ext a b) {p : Addr} (hp : a.heap.size ≤ p.block) (v : Value) : Ext a (b.setCell p v) := Below.setCell h hp v
theorem Ext.setRow {a b : World} (h : Ext a b) {g : Nat} (hg : a.heap.size ≤ g) (cs : Array Value) : Ext a (b.setRow g cs) :=
  Below.trans h ⟨rfl, rfl, rfl, by simp, fun k hk => setRow_other b g k cs (by omega)⟩

/-- Block g is a variable of type t that holds just cs. -/
def Blk (w : World) (g : Nat) (t : TypeId) (cs : Array Value) : Prop := w.heap[g]? = some (.cells cs t (0, 0))
theorem Blk.lt {w : World} {g t cs} (h : Blk w g t cs) : g < w.heap.size := (Array.getElem?_eq_some_iff.1 h).1
theorem Blk.ext {w w' : World} {g t cs} (h : Blk w g t cs) (he : Ext w w') : Blk w' g t cs := (he.block h.lt).trans h
theorem Blk.cell {w : World} {g t cs} (h : Blk w g t cs) (i : Nat) : w.cell? ⟨g, i, none⟩ = cs[i]? := cell_of_row w g i cs t (0, 0) h
theorem Blk.frozen {w : World} {g t cs} (h : Blk w g t cs) (i : Nat) : w.frozen? ⟨g, i, none⟩ = false := frozen_of_row w g i cs t h
theorem Blk.new (w : World) (t : TypeId) (cs : Array Value) : Blk (w.alloc (.cells cs t)) w.heap.size t cs := heap_alloc_new w _
theorem Blk.drew {w : World} {g t cs} (h : Blk w g t cs) : Blk w.drew g t cs := h
theorem Blk.alloc {w : World} {g t cs} (h : Blk w g t cs) (o : Obj) : Blk (w.alloc o) g t cs := h.ext (Ext.of_alloc w o)
theorem Blk.setCell {w : World} {g t cs} (h : Blk w g t cs) (i : Nat) (v : Value) : Blk (w.setCell ⟨g, i, none⟩ v) g t (cs.setIfInBounds i v) := heap_setCell_same w g i cs t v h
theorem Blk.far {w : World} {g t cs} (h : Blk w g t cs) {p : Addr} (hp : g ≠ p.block) (v : Value) : Blk (w.setCell p v) g t cs := (heap_setCell_other w p g v hp).trans h
theorem Blk.setRow {w : World} {g t cs} (h : Blk w g t cs) (ds : Array Value) : Blk (w.setRow g ds) g t ds := setRow_heap w g cs ds t _ h
theorem Blk.farRow {w : World} {g t cs} (h : Blk w g t cs) {k : Nat} (hk : g ≠ k) (ds : Array Value) : Blk (w.setRow k ds) g t cs := (setRow_other w k g ds hk).trans h

section
variable {P : Program}
/-- A whole aggregate is stored over a variable. -/
theorem run_storeVar_row (w : World) (g : Nat) (t ty : TypeId) (cur cs : Array Value) (hg : Blk w g t cur) (hs : cs.size = cur.size)
    (hi : (P.info? ty).map (·.size) = some cs.size) (h1 : ∀ v ∈ cs, v.oneCell' = true) :
    (storeVar ty ⟨g, 0, none⟩ (.agg cs)).run P w = .ok () (w.setRow g cs) := by
  have hst := run_storeCells_at P g 0 t cs.toList 0 cur w hg (by simp [hs]) (fun v hv => h1 v (by simpa using hv))
  have e : (cur.toList.take (0 + 0) ++ cs.toList ++ cur.toList.drop (0 + 0 + cs.toList.length)).toArray = cs := by
    have : cur.toList.drop (0 + 0 + cs.toList.length) = [] := by rw [List.drop_eq_nil_iff]; simp [hs]
    rw [this]; simp
  rw [e] at hst
  cases hq : P.info? ty with
  | none => simp [hq] at hi
  | some i =>
    have hs' : i.size = cs.size := by simpa [hq] using hi
    simp [storeVar, Sem.run_bind, sizeOf, typeInfo, hq, Value.cells, hs', hst]

/-- The cells of an aggregate, wherever they lie. -/
theorem run_loadVar_at (w : World) (a : Addr) (ty : TypeId) (cs : Array Value) (d : TypeDesc) (hc : ∀ (j : Nat) v, cs[j]? = some v → w.cell? (a.add j) = some v)
    (hu : P.underlying ty = some d) (hd : (match d with | .struct _ | .array _ _ => true | _ => false) = true) (hi : (P.info? ty).map (·.size) = some cs.size) :
    (loadVar ty a).run P w = .ok (.agg cs) w := by
  have hl : (loadCells a cs.toList.length).run P w = .ok cs.toList.toArray w :=
    run_loadCells_list (P := P) w a cs.toList (fun j v hv => hc j v (by simpa using hv))
  cases hq : P.info? ty with
  | none => simp [hq] at hi
  | some i =>
    have hs : i.size = cs.size := by simpa [hq] using hi
    have hagg : (isAgg ty).run P w = .ok true w := by
      unfold isAgg
      rw [Sem.run_bind, run_underlying hu w]
      cases d <;> simp_all
    simp only [Array.length_toList, Array.toArray_toList] at hl
    simp [loadVar, Sem.run_bind, hagg, sizeOf, typeInfo, hq, hs, hl]

section
variable {o : Oper} {a : Act} {w : World} {K : Act → World → Prop} {Q : Exit → Act → World → Prop}
/-- A whole variable is read. -/
theorem wp_load_blk (ty : TypeId) (x : Operand) (ho : o.op = .load ty x) (g : Nat) (hx : a.eval x = .pointer (some ⟨g, 0, none⟩)) (t : TypeId) (cs : Array Value) (hg : Blk w g t cs) (d : TypeDesc)
    (hu : P.underlying ty = some d) (hd : (match d with | .struct _ | .array _ _ => true | _ => false) = true) (hi : (P.info? ty).map (·.size) = some cs.size)
    (h : K (a.put o.dst (.agg cs)) w) : o.wp P a w K Q := wp_load_row ty x ho g hx t cs (0, 0) d hg hu hd hi h

theorem wp_load_at (ty : TypeId) (x : Operand) (ho : o.op = .load ty x) (p : Addr) (hx : a.eval x = .pointer (some p)) (cs : Array Value) (hc : ∀ (j : Nat) v, cs[j]? = some v → w.cell? (p.add j) = some v) (d : TypeDesc)
    (hu : P.underlying ty = some d) (hd : (match d with | .struct _ | .array _ _ => true | _ => false) = true) (hi : (P.info? ty).map (·.size) = some cs.size)
    (h : K (a.put o.dst (.agg cs)) w) : o.wp P a w K Q := by
  unfold Oper.wp execOp
  simp only [ho, hx, Instr.loadAt, Instr.sureAddr, Sem.run_bind, Sem.run_pure, Result.andThen_ok, run_loadVar_at w p ty cs d hc hu hd hi]
  exact h

/-- A whole aggregate is stored over a variable. -/
theorem wp_store_blk (ty : TypeId) (x y : Operand) (ho : o.op = .store ty x y) (g : Nat) (hx : a.eval x = .pointer (some ⟨g, 0, none⟩)) (cs : Array Value) (hy : a.eval y = .agg cs) (t : TypeId) (cur : Array Value) (hg : Blk w g t cur)
    (hs : cs.size = cur.size) (hi : (P.info? ty).map (·.size) = some cs.size) (h1 : ∀ v ∈ cs, v.oneCell' = true)
    (h : K (a.put o.dst undef) (w.setRow g cs)) : o.wp P a w K Q := by
  unfold Oper.wp execOp
  simp only [ho, hx, hy, Instr.storeAt, Instr.sureAddr, Sem.run_bind, Sem.run_pure, Result.andThen_ok, run_storeVar_row w g t ty cur cs hg hs hi h1]
  exact h
end
end

/-- From A on lie the elements es, each of 'size' cells (of no elements nothing is said). -/
def At (w : World) (A : Option Addr) (size : Nat) (es : List (Array Value)) : Prop :=
  ∀ (i : Nat) e, es[i]? = some e → e.size = size ∧ ∃ a, A = some a ∧ ∀ (j : Nat) v, e[j]? = some v → w.cell? (a.add (i * size + j)) = some v
theorem At.ext {w w' : World} {A size es} (h : At w A size es) (he : Ext w w') : At w' A size es := fun i e hi => by
  obtain ⟨h1, a, h2, h3⟩ := h i e hi
  exact ⟨h1, a, h2, fun j v hj => he.cell (h3 j v hj)⟩
theorem At.nil (w : World) (A : Option Addr) (size : Nat) : At w A size [] := fun i e h => by simp at h
theorem add_add (a : Addr) (i j : Nat) : (a.add i).add j = a.add (i + j) := by
  unfold Addr.add
  by_cases hi : i = 0 <;> by_cases hj : j = 0 <;> simp [hi, hj, Nat.add_assoc]
theorem At.get {w : World} {A size es} (h : At w A size es) {i : Nat} (hi : i < es.length) : ∃ a, A = some a ∧ es[i].size = size ∧ ∀ (j : Nat) v, (es[i])[j]? = some v → w.cell? ((a.add (i * size)).add j) = some v := by
  obtain ⟨h1, a, h2, h3⟩ := h i _ (List.getElem?_eq_getElem hi)
  exact ⟨a, h2, h1, fun j v hj => by rw [add_add]; exact h3 j v hj⟩

/-- The cells of block g. -/
def row (w : World) (g : Nat) : Array Value := match w.heap[g]? with
  | some (.cells c _ _) => c
  | _ => #[]
/-- Block g is a variable of type t, of n cells. -/
def isV (w : World) (g : Nat) (t : TypeId) (n : Nat) : Prop := ∃ cs, Blk w g t cs ∧ cs.size = n
theorem Blk.row {w : World} {g t cs} (h : Blk w g t cs) : row w g = cs := by
  unfold Blk at h
  simp [Gu.row, h]
theorem isV.blk {w : World} {g t n} (h : isV w g t n) : Blk w g t (row w g) ∧ (row w g).size = n := by
  obtain ⟨cs, hb, hs⟩ := h
  rw [hb.row]; exact ⟨hb, hs⟩
/-- Block g is a variable of type t. -/
def isT (w : World) (g : Nat) (t : TypeId) : Prop := ∃ cs, Blk w g t cs
theorem isV.isT {w : World} {g t n} (h : isV w g t n) : isT w g t := ⟨_, h.blk.1⟩
/-- What the walk is told of a variable. -/
theorem Blk.facts {w : World} {g t cs} (h : Blk w g t cs) (n : Nat) (hn : cs.size = n) : isV w g t n ∧ Gu.row w g = cs ∧ (∀ i, w.cell? ⟨g, i, none⟩ = cs[i]?) ∧ (∀ i, w.frozen? ⟨g, i, none⟩ = false) ∧ isT w g t :=
  ⟨⟨cs, h, hn⟩, h.row, h.cell, h.frozen, ⟨cs, h⟩⟩
@[go_sem] theorem isT_drew (w : World) (g : Nat) (t) : isT w.drew g t ↔ isT w g t := Iff.rfl
@[go_sem] theorem isT_alloc (w : World) (cs : Array Value) (t' : TypeId) (g : Nat) (t : TypeId) : isT (w.alloc (.cells cs t')) g t ↔ if g = w.heap.size then t' = t else isT w g t := by
  have hh : (w.alloc (.cells cs t')).heap[g]? = if g = w.heap.size then some (.cells cs t' (0, 0)) else w.heap[g]? := by
    show (w.heap.push _)[g]? = _
    rw [Array.getElem?_push]
  unfold isT Blk
  rw [hh]
  split
  · constructor
    · rintro ⟨cs', h⟩
      simp only [Option.some.injEq, Obj.cells.injEq] at h
      exact h.2.1
    · rintro rfl; exact ⟨cs, rfl⟩
  · rfl
@[go_sem] theorem isT_setRow (w : World) (b : Nat) (cs : Array Value) (g : Nat) (t : TypeId) : isT (w.setRow b cs) g t ↔ isT w g t := by
  unfold isT
  by_cases e : g = b
  · subst e
    constructor
    · rintro ⟨x, hx⟩
      cases hh : w.heap[g]? with
      | none =>
        have : (w.setRow g cs).heap[g]? = none := by
          have h1 : w.heap.size ≤ g := by simpa using hh
          simpa using h1
        unfold Blk at hx
        rw [this] at hx; cases hx
      | some o =>
        cases o with
        | cells c0 t0 f0 =>
          have h1 := setRow_heap w g c0 cs t0 f0 hh
          unfold Blk at hx
          rw [h1] at hx
          simp only [Option.some.injEq, Obj.cells.injEq] at hx
          obtain ⟨_, rfl, rfl⟩ := hx
          exact ⟨c0, hh⟩
        | _ =>
          unfold Blk World.setRow at hx
          simp [Array.getElem?_modify, hh] at hx
    · rintro ⟨x, hx⟩; exact ⟨cs, Blk.setRow (w := w) hx cs⟩
  · unfold Blk; rw [setRow_other w b g cs e]
@[go_sem] theorem row_alloc (w : World) (cs : Array Value) (t : TypeId) (fr : Nat × Nat) (g : Nat) : row (w.alloc (.cells cs t fr)) g = if g = w.heap.size then cs else row w g := by
  split
  · rename_i h; subst h; unfold row; rw [heap_alloc_new]
  · rename_i h
    unfold row
    have : (w.alloc (.cells cs t fr)).heap[g]? = w.heap[g]? := by
      show (w.heap.push _)[g]? = _
      rw [Array.getElem?_push, if_neg h]
    rw [this]
@[go_sem] theorem isV_alloc (w : World) (cs : Array Value) (t' : TypeId) (g : Nat) (t : TypeId) (n : Nat) : isV (w.alloc (.cells cs t')) g t n ↔ if g = w.heap.size then t' = t ∧ cs.size = n else isV w g t n := by
  have hh : (w.alloc (.cells cs t')).heap[g]? = if g = w.heap.size then some (.cells cs t' (0, 0)) else w.heap[g]? := by
    show (w.heap.push _)[g]? = _
    rw [Array.getElem?_push]
  unfold isV Blk
  rw [hh]
  split
  · constructor
    · rintro ⟨cs', h, hs⟩
      simp only [Option.some.injEq, Obj.cells.injEq] at h
      exact ⟨h.2.1, by rw [h.1]; exact hs⟩
    · rintro ⟨rfl, hs⟩; exact ⟨cs, rfl, hs⟩
  · rfl
@[go_sem] theorem row_drew (w : World) (g : Nat) : row w.drew g = row w g := rfl
@[go_sem] theorem isV_drew (w : World) (g : Nat) (t n) : isV w.drew g t n ↔ isV w g t n := Iff.rfl
@[go_sem] theorem row_setCell (w : World) (b i : Nat) (v : Value) (g : Nat) : row (w.setCell ⟨b, i, none⟩ v) g = if g = b then (row w g).setIfInBounds i v else row w g := by
  unfold row World.setCell
  simp only [Array.getElem?_modify]
  by_cases h : g = b
  · subst h
    simp only [if_true]
    cases w.heap[g]? with
    | none => simp
    | some o => cases o <;> simp
  · rw [if_neg (fun e => h e.symm), if_neg h]
@[go_sem] theorem isV_setCell (w : World) (b i : Nat) (v : Value) (g : Nat) (t n) : isV (w.setCell ⟨b, i, none⟩ v) g t n ↔ isV w g t n := by
  unfold isV Blk World.setCell
  simp only [Array.getElem?_modify]
  by_cases h : b = g
  · subst h
    simp only [if_true]
    cases w.heap[b]? with
    | none => simp
    | some o =>
      cases o <;> simp
      constructor
      · rintro ⟨cs, ⟨h1, h2, h3⟩, h4⟩; exact ⟨_, ⟨rfl, h2, h3⟩, by rw [← h4, ← h1]; simp⟩
      · rintro ⟨cs, ⟨h1, h2, h3⟩, h4⟩; exact ⟨_, ⟨rfl, h2, h3⟩, by simp [h1, h4]⟩
  · rw [if_neg h]
theorem row_setRow_of {w : World} {b : Nat} {t : TypeId} {n : Nat} (h : isV w b t n) (cs : Array Value) (g : Nat) : row (w.setRow b cs) g = if g = b then cs else row w g := by
  obtain ⟨ds, hb, _⟩ := h
  split
  · rename_i e; subst e; exact (hb.setRow cs).row
  · rename_i e; unfold row; rw [setRow_other w b g cs e]
theorem isV_setRow_of {w : World} {b : Nat} {t : TypeId} {n : Nat} (h : isV w b t n) (cs : Array Value) (hs : cs.size = n) (g : Nat) (t' n') : isV (w.setRow b cs) g t' n' ↔ isV w g t' n' := by
  obtain ⟨ds, hb, hd⟩ := h
  unfold isV
  by_cases e : g = b
  · subst e
    constructor
    · rintro ⟨x, hx, hn⟩
      have := hb.setRow cs
      unfold Blk at *
      rw [this] at hx
      simp only [Option.some.injEq, Obj.cells.injEq] at hx
      obtain ⟨rfl, rfl, _⟩ := hx
      exact ⟨ds, hb, by omega⟩
    · rintro ⟨x, hx, hn⟩
      unfold Blk at *
      rw [hb] at hx
      simp only [Option.some.injEq, Obj.cells.injEq] at hx
      obtain ⟨rfl, rfl, _⟩ := hx
      exact ⟨cs, Blk.setRow (w := w) hb cs, by omega⟩
  · unfold Blk; rw [setRow_other w b g cs e]
theorem isV_setRow_any (w : World) (b : Nat) (cs : Array Value) (g : Nat) (t : TypeId) (n : Nat) : isV (w.setRow b cs) g t n ↔ if g = b then isT w b t ∧ cs.size = n else isV w g t n := by
  split
  · rename_i e; subst e
    constructor
    · intro h
      obtain ⟨x, hx⟩ := (isT_setRow w g cs g t).1 h.isT
      refine ⟨⟨x, hx⟩, ?_⟩
      obtain ⟨y, hy, hn⟩ := h
      have := Blk.setRow (w := w) hx cs
      unfold Blk at this hy
      rw [this] at hy
      simp only [Option.some.injEq, Obj.cells.injEq] at hy
      rw [hy.1]; exact hn
    · rintro ⟨⟨x, hx⟩, hn⟩; exact ⟨cs, Blk.setRow (w := w) hx cs, hn⟩
  · rename_i e; unfold isV Blk; rw [setRow_other w b g cs e]
theorem row_setRow_isT {w : World} {b : Nat} {t : TypeId} (h : isT w b t) (cs : Array Value) (g : Nat) : row (w.setRow b cs) g = if g = b then cs else row w g := by
  obtain ⟨ds, hb⟩ := h
  split
  · rename_i e; subst e; exact (Blk.setRow hb cs).row
  · rename_i e; unfold row; rw [setRow_other w b g cs e]
attribute [go_sem] isV_setRow_any
@[go_sem] theorem isT_setCell (w : World) (b i : Nat) (v : Value) (g : Nat) (t) : isT (w.setCell ⟨b, i, none⟩ v) g t ↔ isT w g t := by
  constructor
  · rintro ⟨cs, h⟩
    have : isV (w.setCell ⟨b, i, none⟩ v) g t cs.size := ⟨cs, h, rfl⟩
    rw [isV_setCell] at this
    exact this.isT
  · rintro ⟨cs, h⟩
    have : isV w g t cs.size := ⟨cs, h, rfl⟩
    rw [← isV_setCell w b i v] at this
    exact this.isT
@[go_sem] theorem size_setRow' (w : World) (g : Nat) (cs : Array Value) : (w.setRow g cs).heap.size = w.heap.size := by simp
@[go_sem] theorem drew_setRow (w : World) (g : Nat) (cs : Array Value) : w.drew.setRow g cs = (w.setRow g cs).drew := rfl

/-- All of these are values of one cell. -/
def ones (cs : Array Value) : Prop := ∀ v ∈ cs, v.oneCell' = true
section
variable {P : Program}
theorem load_of {ty : TypeId} {n : Nat} {d : TypeDesc} (hu : P.underlying ty = some d) (hd : (match d with | .struct _ | .array _ _ => true | _ => false) = true) (hi : (P.info? ty).map (·.size) = some n)
    {t : TypeId} (w : World) (g : Nat) (h : isV w g t n) : (loadVar ty ⟨g, 0, none⟩).run P w = .ok (.agg (row w g)) w := by
  obtain ⟨hb, hs⟩ := h.blk
  exact run_loadVar_row w g t ty (row w g) (0, 0) d hb hu hd (by rw [hs]; exact hi)
theorem store_of {ty : TypeId} {n : Nat} (hi : (P.info? ty).map (·.size) = some n)
    {t : TypeId} (w : World) (g : Nat) (cs : Array Value) (h : isV w g t n) (hs : cs.size = n) (h1 : ones cs) : (storeVar ty ⟨g, 0, none⟩ (.agg cs)).run P w = .ok () (w.setRow g cs) := by
  obtain ⟨hb, hs'⟩ := h.blk
  exact run_storeVar_row w g t ty (row w g) cs hb (by omega) (by rw [hs]; exact hi) h1
end

/-- From p on lie n cells. -/
def atP (w : World) (p : Addr) (n : Nat) : Prop := ∀ j, j < n → (w.cell? (p.add j)).isSome = true
def cellsAt (w : World) (p : Addr) (n : Nat) : Array Value := ((List.range n).map fun j => (w.cell? (p.add j)).getD undef).toArray
theorem cellsAt_size (w p n) : (cellsAt w p n).size = n := by simp [cellsAt]
theorem at_facts {w : World} {p : Addr} {cs : Array Value} {n : Nat} (hn : cs.size = n) (h : ∀ (j : Nat) v, cs[j]? = some v → w.cell? (p.add j) = some v) : atP w p n ∧ cellsAt w p n = cs := by
  have h1 : ∀ (j : Nat) (hj : j < n), w.cell? (p.add j) = some (cs[j]'(by omega)) := fun j hj => h j _ (by simp [hn, hj])
  refine ⟨fun j hj => by rw [h1 j hj]; rfl, ?_⟩
  apply Array.ext
  · simp [cellsAt_size, hn]
  · intro i h2 h3
    rw [cellsAt_size] at h2
    simp [cellsAt, h1 i h2]
theorem At.facts {w : World} {A size es} (h : At w A size es) {i : Nat} (hi : i < es.length) : ∃ a, A = some a ∧ atP w (a.add (i * size)) size ∧ cellsAt w (a.add (i * size)) size = es[i] := by
  obtain ⟨a, h1, h2, h3⟩ := h.get hi
  exact ⟨a, h1, at_facts h2 h3⟩
section
variable {P : Program}
theorem loadA_of {ty : TypeId} {n : Nat} {d : TypeDesc} (hu : P.underlying ty = some d) (hd : (match d with | .struct _ | .array _ _ => true | _ => false) = true) (hi : (P.info? ty).map (·.size) = some n)
    (w : World) (p : Addr) (h : atP w p n) : (loadVar ty p).run P w = .ok (.agg (cellsAt w p n)) w :=
  run_loadVar_at w p ty (cellsAt w p n) d (fun j v hj => by
    have hlt : j < n := by
      have := (Array.getElem?_eq_some_iff.1 hj).1
      rw [cellsAt_size] at this; exact this
    have := h j hlt
    obtain ⟨u, hu⟩ := Option.isSome_iff_exists.1 this
    rw [hu]
    simp [cellsAt, hlt, hu] at hj
    rw [hj]) hu hd (by rw [cellsAt_size]; exact hi)
end

def addrOf : Value → Addr
  | .pointer (some a) => a
  | _ => ⟨0, 0, none⟩
def isPtr : Value → Bool
  | .pointer (some _) => true
  | _ => false
def cellsOf : Value → Array Value
  | .agg cs => cs
  | _ => #[]
def isAggV : Value → Bool
  | .agg _ => true
  | _ => false
@[go_sem] theorem addrOf_ptr (a : Addr) : addrOf (.pointer (some a)) = a := rfl
@[go_sem] theorem isPtr_ptr (a : Addr) : isPtr (.pointer (some a)) = true := rfl
@[go_sem] theorem cellsOf_agg (cs : Array Value) : cellsOf (.agg cs) = cs := rfl
@[go_sem] theorem isAggV_agg (cs : Array Value) : isAggV (.agg cs) = true := rfl
theorem isPtr_eq {v : Value} (h : isPtr v = true) : v = .pointer (some (addrOf v)) := by
  cases v with
  | pointer a => cases a with | none => simp [isPtr] at h | some a => rfl
  | _ => simp [isPtr] at h
theorem isAggV_eq {v : Value} (h : isAggV v = true) : v = .agg (cellsOf v) := by
  cases v <;> first | rfl | simp [isAggV] at h
section
variable {P : Program}
theorem exec_loadA {ty : TypeId} {n : Nat} {d : TypeDesc} (hu : P.underlying ty = some d) (hd : (match d with | .struct _ | .array _ _ => true | _ => false) = true) (hi : (P.info? ty).map (·.size) = some n)
    (ρ : Operand → Value) (dst : Option Tmp) (x : Operand) (t : TypeId) (pos : String) (aft : Array Edge) (gd : Option (Nat × Bool)) (w : World)
    (h1 : isPtr (ρ x) = true) (h2 : atP w (addrOf (ρ x)) n) : (execOp ρ ⟨dst, .load ty x, t, pos, aft, gd⟩).run P w = .ok (.value (.agg (cellsAt w (addrOf (ρ x)) n))) w := by
  have e := isPtr_eq h1
  generalize addrOf (ρ x) = p at *
  simp only [execOp, e, Instr.loadAt, Instr.sureAddr, Sem.run_bind, Sem.run_pure, Result.andThen_ok, loadA_of hu hd hi w p h2]
theorem exec_loadV {ty : TypeId} {n : Nat} {d : TypeDesc} (hu : P.underlying ty = some d) (hd : (match d with | .struct _ | .array _ _ => true | _ => false) = true) (hi : (P.info? ty).map (·.size) = some n)
    (ρ : Operand → Value) (dst : Option Tmp) (x : Operand) (t : TypeId) (pos : String) (aft : Array Edge) (gd : Option (Nat × Bool)) (w : World)
    (h1 : isPtr (ρ x) = true) (h0 : (addrOf (ρ x)).off = 0) (h3 : (addrOf (ρ x)).spot = none) (h2 : isV w (addrOf (ρ x)).block ty n) : (execOp ρ ⟨dst, .load ty x, t, pos, aft, gd⟩).run P w = .ok (.value (.agg (row w (addrOf (ρ x)).block))) w := by
  have e := isPtr_eq h1
  generalize addrOf (ρ x) = p at *
  obtain ⟨b, o, s⟩ := p
  simp only at h0 h3 h2
  subst h0; subst h3
  simp only [execOp, e, Instr.loadAt, Instr.sureAddr, Sem.run_bind, Sem.run_pure, Result.andThen_ok, load_of hu hd hi w b h2]
theorem exec_storeV {ty : TypeId} {n : Nat} (hi : (P.info? ty).map (·.size) = some n)
    (ρ : Operand → Value) (dst : Option Tmp) (x y : Operand) (t : TypeId) (pos : String) (aft : Array Edge) (gd : Option (Nat × Bool)) (w : World)
    (h1 : isPtr (ρ x) = true) (h0 : (addrOf (ρ x)).off = 0) (h3 : (addrOf (ρ x)).spot = none) (h2 : isV w (addrOf (ρ x)).block ty n) (h4 : isAggV (ρ y) = true) (h5 : (cellsOf (ρ y)).size = n) (h6 : ones (cellsOf (ρ y))) :
    (execOp ρ ⟨dst, .store ty x y, t, pos, aft, gd⟩).run P w = .ok .skip (w.setRow (addrOf (ρ x)).block (cellsOf (ρ y))) := by
  have e := isPtr_eq h1
  have e2 := isAggV_eq h4
  generalize addrOf (ρ x) = p at *
  generalize cellsOf (ρ y) = cs at *
  obtain ⟨b, o, s⟩ := p
  simp only at h0 h3 h2
  subst h0; subst h3
  simp only [execOp, e, e2, Instr.storeAt, Instr.sureAddr, Sem.run_bind, Sem.run_pure, Result.andThen_ok, store_of hi w b cs h2 h5 h6]
end

section
variable {P : Program}
/-- The function's one result lies in a variable. -/
theorem ret_cell {ty : TypeId} {n : Nat} {d : TypeDesc} (hu : P.underlying ty = some d) (hd : (match d with | .struct _ | .array _ _ => true | _ => false) = true) (hi : (P.info? ty).map (·.size) = some n)
    {fn : Func} {p : Tmp} (h : fn.results = #[.cell p ty]) {R : Ending → World → Prop} {a : Act} {w : World} (g : Nat) (cs : Array Value) (hp : a.tmps.getD p undef = .pointer (some ⟨g, 0, none⟩)) (hv : isV w g ty n) (hr : row w g = cs)
    (hdf : a.defers = []) (hR : R (.returned (.agg cs)) w) : bodyPost P fn R .ret a w := by
  obtain ⟨hb, hs⟩ := hv.blk
  subst hr
  exact bodyPost_ret (results_cell_row h a.tmps w g ty (row w g) (0, 0) d hp hb hu hd (by rw [hs]; exact hi)) hdf hR
end

section
variable {P : Program}
/-- An array of one-cell elements is indexed. -/
theorem index_of {ty e : TypeId} {n : Nat} (hu : P.underlying ty = some (.array n e)) {d : TypeDesc} (hue : P.underlying e = some d) (hd : (match d with | .struct _ | .array _ _ => true | _ => false) = false) (hi : (P.info? e).map (·.size) = some 1)
    (cs : Array Value) (k : IntKind) (i : Int) (w : World) (h0 : 0 ≤ i) (h1 : i < n) (hs : cs.size = n) : (Instr.index ty (.agg cs) (.int k i)).run P w = .ok (cs[i.toNat]?.getD undef) w := by
  cases hq : P.info? e with
  | none => simp [hq] at hi
  | some inf =>
    have hsz : inf.size = 1 := by simpa [hq] using hi
    have hlt : i.toNat < cs.size := by omega
    have hagg : (isAgg e).run P w = .ok false w := by
      unfold isAgg
      rw [Sem.run_bind, run_underlying hue w]
      cases d <;> simp_all
    simp [Instr.index, asIntOf, Sem.run_bind, run_underlying hu w, h0, h1, sizeOf, typeInfo, hq, hsz, part, hagg, hlt]
end

section
variable {P : Program}
theorem run_forIn_all (w : World) (g : Nat → Option Bool × Unit → Sem (ForInStep (Option Bool × Unit))) (f : Nat → Bool) : ∀ (l : List Nat), (∀ i ∈ l, (g i (none, ())).run P w = .ok (if f i then .yield (none, ()) else .done (some false, ())) w) →
    (forIn l (none, ()) g).run P w = .ok (if l.all f then none else some false, ()) w := by
  intro l
  induction l with
  | nil => intro _; simp
  | cons i l ih =>
    intro h
    rw [List.forIn_cons]
    simp only [Sem.run_bind, h i (by simp), Result.andThen_ok]
    cases hf : f i with
    | true => simpa [hf] using ih (fun j hj => h j (by simp [hj]))
    | false => simp [hf]
theorem run_equalIn_array (w : World) {ty e : TypeId} {n d : Nat} (hu : P.underlying ty = some (.array n e)) (hi : (P.info? e).map (·.size) = some 1) {de : TypeDesc} (hue : P.underlying e = some de) (hd : (match de with | .struct _ | .array _ _ => true | _ => false) = false)
    (xs ys : Array Value) (hx : xs.size = n) (hy : ys.size = n) (f : Nat → Bool) (hf : ∀ i (h : i < n), (Op.equalIn d e (xs[i]'(by omega)) (ys[i]'(by omega))).run P w = .ok (f i) w) :
    (Op.equalIn (d + 1) ty (.agg xs) (.agg ys)).run P w = .ok ((List.range n).all f) w := by
  cases hq : P.info? e with
  | none => simp [hq] at hi
  | some inf =>
    have hsz : inf.size = 1 := by simpa [hq] using hi
    have hagg : (isAgg e).run P w = .ok false w := by
      unfold isAgg
      rw [Sem.run_bind, run_underlying hue w]
      cases de <;> simp_all
    unfold Op.equalIn
    simp only [Sem.run_bind, run_underlying hu w, Result.andThen_ok, sizeOf, typeInfo]
    simp only [run_program, Result.andThen_ok, hq, Sem.run_pure, hsz, Nat.mul_one]
    simp only [Std.Legacy.Range.forIn_eq_forIn_range', Std.Legacy.Range.size]
    have e1 : List.range' 0 n = List.range n := (List.range_eq_range' ).symm
    simp [e1]
    rw [run_forIn_all w _ f]
    · cases (List.range n).all f <;> simp
    · intro i hil
      have hil : i < n := by simpa using hil
      have h1 : xs[i]? = some (xs[i]'(by omega)) := Array.getElem?_eq_getElem (by omega)
      have h2 : ys[i]? = some (ys[i]'(by omega)) := Array.getElem?_eq_getElem (by omega)
      simp only [part, Sem.run_bind, hagg, Result.andThen_ok, Bool.false_eq_true, if_false, h1, h2, Sem.run_pure, hf i hil]
      cases f i <;> simp
end

/-- A slice of the call's own (from block B on) that holds just the elements es. -/
def OwnR (B : Nat) (w : World) (t : TypeId) (size : Nat) (v : Value) (es : List (Array Value)) : Prop :=
  w.ownsRow B t size v es.length (es.flatMap (·.toList)) ∧ ∀ e ∈ es, e.size = size
/-- A slice that reads as the elements es. -/
def Sl (w : World) (size : Nat) (v : Value) (es : List (Array Value)) : Prop := ∃ A cap, v = .slice A es.length cap ∧ At w A size es
theorem Sl.ext {w w' : World} {size v es} (h : Sl w size v es) (he : Ext w w') : Sl w' size v es := by
  obtain ⟨A, cap, hv, ha⟩ := h
  exact ⟨A, cap, hv, ha.ext he⟩
theorem OwnR.nil (B : Nat) (w : World) (t : TypeId) (size : Nat) : OwnR B w t size (.slice none 0 0) [] := ⟨⟨by simp, .inl ⟨rfl, rfl⟩⟩, fun e h => by cases h⟩
theorem flat_get {size : Nat} : ∀ {es : List (Array Value)} {i j : Nat} {e : Array Value} {u : Value}, (∀ e ∈ es, e.size = size) → es[i]? = some e → e[j]? = some u → (es.flatMap (·.toList))[i * size + j]? = some u
  | [], _, _, _, _, _, h, _ => by simp at h
  | x :: es, 0, j, e, u, _, h, hj => by
    simp at h; subst h
    have hlt : j < x.size := (Array.getElem?_eq_some_iff.1 hj).1
    simp only [List.flatMap_cons, Nat.zero_mul, Nat.zero_add]
    rw [List.getElem?_append_left (by simpa using hlt)]
    simpa using hj
  | x :: es, i + 1, j, e, u, hs, h, hj => by
    have hx := hs x (by simp)
    simp only [List.flatMap_cons]
    rw [List.getElem?_append_right (by simp only [Array.length_toList, hx, Nat.add_mul]; omega)]
    simp only [Array.length_toList, hx]
    rw [show (i + 1) * size + j - size = i * size + j from by rw [Nat.add_mul]; omega]
    exact flat_get (fun e he => hs e (by simp [he])) (by simpa using h) hj
theorem OwnR.sl {B : Nat} {w : World} {t size v es} (h : OwnR B w t size v es) : Sl w size v es := by
  obtain ⟨⟨hlen, hv⟩, hs⟩ := h
  rcases hv with ⟨rfl, h0⟩ | ⟨g, cap, cur, rfl, hg, hh, h1, h2, h3, h4⟩
  · have : es = [] := List.length_eq_zero_iff.1 h0
    subst this
    exact ⟨none, 0, rfl, At.nil _ _ _⟩
  · refine ⟨some ⟨g, 0, none⟩, cap, rfl, fun i e hi => ⟨hs e (List.mem_of_getElem? hi), ⟨g, 0, none⟩, rfl, fun j u hj => ?_⟩⟩
    have hf := flat_get hs hi hj
    rw [← h4, List.getElem?_take] at hf
    split at hf
    · have hc : w.cell? ⟨g, i * size + j, none⟩ = cur[i * size + j]? := cell_of_row w g _ cur t (0, 0) hh
      have ha : (⟨g, 0, none⟩ : Addr).add (i * size + j) = ⟨g, i * size + j, none⟩ := by unfold Addr.add; split <;> simp_all
      rw [ha, hc]; simpa using hf
    · cases hf
theorem OwnR.alloc {B : Nat} {w : World} {t size v es} (h : OwnR B w t size v es) (o : Obj) : OwnR B (w.alloc o) t size v es := ⟨h.1.alloc o, h.2⟩
theorem OwnR.drew {B : Nat} {w : World} {t size v es} (h : OwnR B w t size v es) : OwnR B w.drew t size v es := h
theorem OwnR.ext {B : Nat} {w w' : World} {t size v es} (h : OwnR B w t size v es) (he : Ext w w') : OwnR B w' t size v es := by
  obtain ⟨⟨hlen, hv⟩, hs⟩ := h
  refine ⟨⟨hlen, ?_⟩, hs⟩
  rcases hv with h | ⟨g, cap, cur, rfl, hg, hh, r⟩
  · exact .inl h
  · exact .inr ⟨g, cap, cur, rfl, hg, (Blk.ext (t := t) hh he), r⟩
theorem OwnR.mono {B B' : Nat} {w : World} {t size v es} (h : OwnR B w t size v es) (hB : B' ≤ B) : OwnR B' w t size v es := by
  obtain ⟨⟨hlen, hv⟩, hs⟩ := h
  refine ⟨⟨hlen, ?_⟩, hs⟩
  rcases hv with h | ⟨g, cap, cur, rfl, hg, r⟩
  · exact .inl h
  · exact .inr ⟨g, cap, cur, rfl, by omega, r⟩
theorem OwnR.block {B : Nat} {w : World} {t size v es} (h : OwnR B w t size v es) {g : Nat} (hg : v.ownBlock = some g) : B ≤ g ∧ g < w.heap.size := by
  obtain ⟨⟨_, hv⟩, _⟩ := h
  rcases hv with ⟨rfl, _⟩ | ⟨g', cap, cur, rfl, hb, hh, _⟩
  · simp [Value.ownBlock] at hg
  · have : g' = g := by simpa [Value.ownBlock] using hg
    subst this
    exact ⟨hb, (Array.getElem?_eq_some_iff.1 hh).1⟩
section
variable {P : Program}
/-- 'xs = append(xs, x)': one element more in a slice of the call's own. -/
theorem wpList_append_one {ops : Array Oper} {rest : List Oper} {o : Oper} {a : Act} {Q : Exit → Act → World → Prop} (hgd : o.guard = none) (s x : Operand) (t : TypeId)
    (ho : o.op = .call { callee := .builtin .append, args := #[s, x], argTypes := #[t, t] })
    {e : TypeId} {z : Value} {size bytes : Nat} (ht : P.underlying t = some (.slice e)) (hinf : (P.info? e).map (fun i => (i.zero, i.size, i.bytes)) = some (some z, size, bytes)) (hzs : z.cells.size = size) (hsz : 0 < size)
    (W : World) {wr : World} {es : List (Array Value)} {v : Value} (hown : OwnR W.heap.size wr e size v es) (hE : Ext W wr) (hs : a.eval s = v) {el : Array Value} (hx : a.eval x = .slice (some ⟨wr.heap.size, 0, none⟩) 1 1) (h1 : ones el) (hel : el.size = size)
    (hb : (es.length + 1) * bytes ≤ 140737488355328) (hb2 : es.length + 1 ≤ maxLen)
    (h : ∀ v' w', OwnR W.heap.size w' e size v' (es ++ [el]) → Ext W w' → wpList P ops Q rest (a.put o.dst v') w') : wpList P ops Q (o :: rest) a (wr.alloc (.cells el e)) := by
  cases hq : P.info? e with
  | none => simp [hq] at hinf
  | some i =>
    simp only [hq, Option.map_some, Option.some.injEq, Prod.mk.injEq] at hinf
    refine wpList_append_own _ hgd s x t ho W.heap.size e i z size bytes ht hq hinf.1 hinf.2.1 hinf.2.2 hzs hsz v es.length _ hs (hown.alloc _).1 ⟨wr.heap.size, 0, none⟩ 1 1 el.toList hx (by simp [hel]) ?_ (fun u hu => h1 u (by simpa using hu)) hb2 hb (by have := hE.size; simp; omega) ?_
    · intro j u hj
      have ha : (⟨wr.heap.size, 0, none⟩ : Addr).add j = ⟨wr.heap.size, j, none⟩ := by unfold Addr.add; split <;> simp_all
      rw [ha, (Blk.new wr e el).cell]
      simpa using hj
    · intro v' w' h2 hg _
      refine h v' w' ⟨by simpa using h2, fun y hy => ?_⟩ ?_
      · rcases List.mem_append.1 hy with hy | hy
        · exact hown.2 y hy
        · simp at hy; rw [hy]; exact hel
      · exact (Below.alloc hE hE.size _).grown hg (by have := hE.size; simp; omega) (fun k hk => (hown.block hk).1)
end

section
variable {P : Program}
/-- 'xs = append(xs, x)': x lies anywhere, as a slice of one. -/
theorem wpList_append_sl {ops : Array Oper} {rest : List Oper} {o : Oper} {a : Act} {Q : Exit → Act → World → Prop} (hgd : o.guard = none) (s x : Operand) (t : TypeId)
    (ho : o.op = .call { callee := .builtin .append, args := #[s, x], argTypes := #[t, t] })
    {e : TypeId} {z : Value} {size bytes : Nat} (ht : P.underlying t = some (.slice e)) (hinf : (P.info? e).map (fun i => (i.zero, i.size, i.bytes)) = some (some z, size, bytes)) (hzs : z.cells.size = size) (hsz : 0 < size)
    (W : World) {wr : World} {es : List (Array Value)} {v : Value} (hown : OwnR W.heap.size wr e size v es) (hE : Ext W wr) (hs : a.eval s = v) {el : Array Value} {u : Value} (hx : a.eval x = u) (hu : Sl wr size u [el]) (h1 : ones el) (hel : el.size = size)
    (hb : (es.length + 1) * bytes ≤ 140737488355328) (hb2 : es.length + 1 ≤ maxLen)
    (h : ∀ v' w', OwnR W.heap.size w' e size v' (es ++ [el]) → Ext W w' → wpList P ops Q rest (a.put o.dst v') w') : wpList P ops Q (o :: rest) a wr := by
  obtain ⟨A, cap, rfl, hA⟩ := hu
  obtain ⟨_, ad, rfl, hc⟩ := hA 0 el rfl
  cases hq : P.info? e with
  | none => simp [hq] at hinf
  | some i =>
    simp only [hq, Option.map_some, Option.some.injEq, Prod.mk.injEq] at hinf
    refine wpList_append_own _ hgd s x t ho W.heap.size e i z size bytes ht hq hinf.1 hinf.2.1 hinf.2.2 hzs hsz v es.length _ hs hown.1 ad 1 cap el.toList (by simpa using hx) (by simp [hel]) ?_ (fun u hu => h1 u (by simpa using hu)) hb2 hb hE.size ?_
    · intro j u hj
      have := hc j u (by simpa using hj)
      simpa using this
    · intro v' w' h2 hg _
      refine h v' w' ⟨by simpa using h2, fun y hy => ?_⟩ ?_
      · rcases List.mem_append.1 hy with hy | hy
        · exact hown.2 y hy
        · simp at hy; rw [hy]; exact hel
      · exact hE.grown hg hE.size (fun k hk => (hown.block hk).1)
end

/-- An int as an element of one cell. -/
def iv (n : Int) : Array Value := #[.int .i64 n]
theorem iv_size (n : Int) : (iv n).size = 1 := rfl
theorem iv_ones (n : Int) : ones (iv n) := by intro v hv; simp [iv] at hv; subst hv; rfl
theorem At.int {w : World} {A : Option Addr} {l : List Int} (h : At w A 1 (l.map iv)) {i : Nat} (hi : i < l.length) : ∃ a, A = some a ∧ w.cell? (a.add i) = some (.int .i64 l[i]) := by
  obtain ⟨_, a, h2, h3⟩ := h i (iv l[i]) (by simp [hi])
  exact ⟨a, h2, by simpa using h3 0 (.int .i64 l[i]) rfl⟩

section
variable {P : Program}
theorem results_cell_run {ty : TypeId} {n : Nat} {d : TypeDesc} (hu : P.underlying ty = some d) (hd : (match d with | .struct _ | .array _ _ => true | _ => false) = true) (hi : (P.info? ty).map (·.size) = some n)
    (g : Nat) (cs : Array Value) {w : World} (hv : isV w g ty n) (hr : row w g = cs) : (loadVar ty ⟨g, 0, none⟩).run P w = .ok (.agg cs) w := by
  subst hr
  exact load_of hu hd hi w g hv
/-- Two results: a variable, and a slot. -/
theorem ret_cell_tmp {ty : TypeId} {n : Nat} {d : TypeDesc} (hu : P.underlying ty = some d) (hd : (match d with | .struct _ | .array _ _ => true | _ => false) = true) (hi : (P.info? ty).map (·.size) = some n)
    {fn : Func} {p u : Tmp} (h : fn.results = #[.cell p ty, .tmp u]) {R : Ending → World → Prop} {a : Act} {w : World} (g : Nat) (cs : Array Value) (v : Value) (hp : a.tmps.getD p undef = .pointer (some ⟨g, 0, none⟩)) (hu2 : a.tmps.getD u undef = v) (hv : isV w g ty n) (hr : row w g = cs)
    (hdf : a.defers = []) (hR : R (.returned (.tuple #[.agg cs, v])) w) : bodyPost P fn R .ret a w := by
  refine bodyPost_ret ?_ hdf hR
  rw [results_cell_tmp h, hp, hu2]
  simp [asAddr, results_cell_run hu hd hi g cs hv hr]
end

/-- A value that is a slice of the elements es; a pointer to a variable that holds cs. -/
def PSl (size : Nat) (es : List (Array Value)) : Value → World → Prop := fun v w => Sl w size v es
def PBlk (t : TypeId) (cs : Array Value) : Value → World → Prop := fun v w => ∃ g, v = .pointer (some ⟨g, 0, none⟩) ∧ Blk w g t cs
theorem PSl.st {size es} : ∀ v w w', PSl size es v w → Ext w w' → PSl size es v w' := fun _ _ _ h he => Sl.ext h he
theorem PBlk.st {t cs} : ∀ v w w', PBlk t cs v w → Ext w w' → PBlk t cs v w' := fun _ _ _ ⟨g, h, hb⟩ he => ⟨g, h, hb.ext he⟩
theorem Sl.one (w : World) (t : TypeId) (el : Array Value) : Sl (w.alloc (.cells el t)) el.size (.slice (some ⟨w.heap.size, 0, none⟩) 1 1) [el] :=
  ⟨_, _, rfl, fun i e hi => by
    cases i with
    | zero =>
      simp at hi; subst hi
      refine ⟨rfl, _, rfl, fun j u hj => ?_⟩
      have ha : (⟨w.heap.size, 0, none⟩ : Addr).add (0 * el.size + j) = ⟨w.heap.size, j, none⟩ := by unfold Addr.add; split <;> simp_all
      rw [ha, (Blk.new w t el).cell]; exact hj
    | succ i => simp at hi⟩

/-- The elements' cells, one behind the other. -/
def rowOf (es : List (Array Value)) : Array Value := (es.flatMap (·.toList)).toArray
theorem rowOf_one (e : Array Value) : rowOf [e] = e := by simp [rowOf]
theorem rowOf_size {es : List (Array Value)} {size : Nat} (h : ∀ e ∈ es, e.size = size) : (rowOf es).size = es.length * size := by
  simp only [rowOf, List.size_toArray, List.length_flatMap, Array.length_toList]
  induction es with
  | nil => simp
  | cons e es ih => simp only [List.map_cons, List.sum_cons, List.length_cons, Nat.add_mul]; rw [h e (by simp), ih fun x hx => h x (by simp [hx])]; omega
theorem Sl.many (w : World) (t : TypeId) {size : Nat} {es : List (Array Value)} (h : ∀ e ∈ es, e.size = size) : Sl (w.alloc (.cells (rowOf es) t)) size (.slice (some ⟨w.heap.size, 0, none⟩) es.length es.length) es :=
  ⟨_, _, rfl, fun i e hi => ⟨h e (List.mem_of_getElem? hi), _, rfl, fun j u hj => by
    have ha : (⟨w.heap.size, 0, none⟩ : Addr).add (i * size + j) = ⟨w.heap.size, i * size + j, none⟩ := by unfold Addr.add; split <;> simp_all
    rw [ha, (Blk.new w t (rowOf es)).cell]
    simpa [rowOf] using flat_get h hi hj⟩⟩
theorem foldl_seg : ∀ (cs : List Value) (off k : Nat) (cells : Array Value), off + k + cs.length ≤ cells.size →
    (cs.zipIdx k).foldl (fun acc x => acc.setIfInBounds (off + x.2) x.1) cells = (cells.toList.take (off + k) ++ cs ++ cells.toList.drop (off + k + cs.length)).toArray
  | [], off, k, cells, _ => by simp
  | c :: cs, off, k, cells, h => by
    simp only [List.length_cons] at h
    rw [List.zipIdx_cons, List.foldl_cons]
    rw [foldl_seg cs off (k + 1) _ (by simp; omega)]
    have e := list_seg_step cells.toList (off + k) c cs (by simp; omega)
    simpa [Array.toList_setIfInBounds, Nat.add_assoc] using congrArg List.toArray e
def zipFrom : Nat → List Value → List (Nat × Value)
  | _, [] => []
  | k, v :: vs => (k, v) :: zipFrom (k + 1) vs
theorem fill_all (size : Nat) : ∀ (vs : List Value) (k : Nat) (cells : Array Value), (∀ v ∈ vs, v.cells.size = size) → cells.size = (k + vs.length) * size →
    Instr.fill (fun i => some (i * size, size)) cells (zipFrom k vs) = some (cells.toList.take (k * size) ++ vs.flatMap (·.cells.toList)).toArray
  | [], k, cells, _, hc => by
    simp only [zipFrom, Instr.fill, List.flatMap_nil, List.append_nil]
    rw [List.take_of_length_le (by simp [hc])]
  | v :: vs, k, cells, hv, hc => by
    have h1 := hv v (by simp)
    simp only [List.length_cons] at hc
    have hle : k * size + v.cells.size ≤ cells.size := by rw [hc, h1, ← Nat.succ_mul]; exact Nat.mul_le_mul_right _ (by omega)
    simp only [zipFrom, Instr.fill, h1, ne_eq, not_true, decide_false, Bool.false_or]
    rw [if_neg (by rw [h1] at hle; simpa using hle)]
    have hf := foldl_seg v.cells.toList (k * size) 0 cells (by simpa using hle)
    have hf' : v.cells.zipIdx.foldl (fun cs x => cs.setIfInBounds (k * size + x.2) x.1) cells = (cells.toList.take (k * size + 0) ++ v.cells.toList ++ cells.toList.drop (k * size + 0 + v.cells.toList.length)).toArray := by
      rw [← hf, ← Array.foldl_toList]; simp
    rw [hf']
    rw [fill_all size vs (k + 1) _ (fun u hu => hv u (by simp [hu])) (by simp only [List.size_toArray, List.length_append, List.length_take, List.length_drop, Array.length_toList, h1, hc, Nat.add_mul]; rw [hc, h1] at hle; simp only [Nat.add_mul] at hle; omega)]
    congr 2
    simp only [List.flatMap_cons, ← List.append_assoc]
    congr 1
    rw [List.take_append_of_le_length (by simp [h1, Nat.add_mul]; rw [h1] at hle; omega)]
    rw [List.take_of_length_le (by simp [h1, Nat.add_mul]; omega)]
    simp
section
variable {P : Program}
theorem run_buildSlice_all {T e : TypeId} (hu : P.underlying T = some (.slice e)) {z : Value} {size bytes : Nat} (hinf : (P.info? e).map (fun i => (i.zero, i.size, i.bytes)) = some (some z, size, bytes)) (hzs : z.cells.size = size)
    (w : World) (vs : List Value) (hv : ∀ v ∈ vs, v.cells.size = size) (hn : vs.length * size ≤ 16777216) (hp : 0 < vs.length * size) :
    (Instr.buildSlice T vs.length (zipFrom 0 vs).toArray).run P w = .ok (.slice (some ⟨w.heap.size, 0, none⟩) vs.length vs.length) (w.alloc (.cells (rowOf (vs.map (·.cells))) e)) := by
  cases hq : P.info? e with
  | none => simp [hq] at hinf
  | some i =>
    simp only [hq, Option.map_some, Option.some.injEq, Prod.mk.injEq] at hinf
    obtain ⟨h1, h2, _⟩ := hinf
    have hz : (zeroValue e).run P w = .ok z w := by simp [zeroValue, Sem.run_bind, typeInfo, hq, h1]
    unfold Instr.buildSlice
    simp only [Sem.run_bind, run_underlying hu w, Result.andThen_ok, sizeOf, typeInfo, run_program, hq, Sem.run_pure, h2]
    rw [if_neg (by omega), if_neg (by omega)]
    simp only [Sem.run_bind, hz, Result.andThen_ok, Sem.run_pure]
    rw [fill_all size vs 0 _ hv (by simp)]
    simp only [Nat.zero_mul, List.take_zero, List.nil_append, newRow, Sem.run_bind, Sem.run_pure, Result.andThen_ok]
    rw [run_newObj]
    simp only [Result.andThen_ok, rowOf, List.flatMap_map]
    rfl
section
variable {T e : TypeId} (hu : P.underlying T = some (.slice e)) {z : Value} {size bytes : Nat} (hinf : (P.info? e).map (fun i => (i.zero, i.size, i.bytes)) = some (some z, size, bytes)) (hzs : z.cells.size = size) (hp : 0 < size) (hq : size ≤ 1000000)
  (ρ : Operand → Value) (dst : Option Tmp) (t : TypeId) (pos : String) (aft : Array Edge) (gd : Option (Nat × Bool)) (w : World)
include hu hinf hzs hp hq
theorem exec_bs (xs : List Operand) (hl : xs.length ≤ 16) (hpos : 0 < xs.length) (h : ∀ x ∈ xs, isAggV (ρ x) = true ∧ (cellsOf (ρ x)).size = size) (parts : Array (Nat × Operand)) (hparts : (parts.map fun (i, x) => (i, ρ x)) = (zipFrom 0 (xs.map ρ)).toArray) :
    (execOp ρ ⟨dst, .buildSlice T xs.length parts, t, pos, aft, gd⟩).run P w = .ok (.value (.slice (some ⟨w.heap.size, 0, none⟩) xs.length xs.length)) (w.alloc (.cells (rowOf (xs.map fun x => cellsOf (ρ x))) e)) := by
  have hc : ∀ x ∈ xs, (ρ x).cells = cellsOf (ρ x) := fun x hx => by
    have := isAggV_eq (h x hx).1
    rw [this]; rfl
  have hle : xs.length * size ≤ 16777216 := Nat.le_trans (Nat.mul_le_mul hl hq) (by decide)
  have hr := run_buildSlice_all (P := P) hu hinf hzs w (xs.map ρ) (fun v hv => by
    obtain ⟨x, hx, rfl⟩ := List.mem_map.1 hv
    rw [hc x hx]; exact (h x hx).2) (by simpa using hle) (by simp; exact Nat.mul_pos hpos hp)
  rw [List.length_map] at hr
  have e1 : (xs.map ρ).map (·.cells) = xs.map fun x => cellsOf (ρ x) := by
    rw [List.map_map]; exact List.map_congr_left fun x hx => hc x hx
  rw [e1] at hr
  simp only [execOp, hparts, Sem.run_bind, hr, Result.andThen_ok, Sem.run_pure]
theorem exec_bs1 (x : Operand) (h1 : isAggV (ρ x) = true) (h2 : (cellsOf (ρ x)).size = size) :
    (execOp ρ ⟨dst, .buildSlice T 1 #[(0, x)], t, pos, aft, gd⟩).run P w = .ok (.value (.slice (some ⟨w.heap.size, 0, none⟩) 1 1)) (w.alloc (.cells (rowOf [cellsOf (ρ x)]) e)) :=
  exec_bs hu hinf hzs hp hq ρ dst t pos aft gd w [x] (by simp) (by simp) (fun y hy => by simp at hy; subst hy; exact ⟨h1, h2⟩) #[(0, x)] (by simp [zipFrom])
theorem exec_bs2 (x y : Operand) (h1 : isAggV (ρ x) = true) (h2 : (cellsOf (ρ x)).size = size) (h3 : isAggV (ρ y) = true) (h4 : (cellsOf (ρ y)).size = size) :
    (execOp ρ ⟨dst, .buildSlice T 2 #[(0, x), (1, y)], t, pos, aft, gd⟩).run P w = .ok (.value (.slice (some ⟨w.heap.size, 0, none⟩) 2 2)) (w.alloc (.cells (rowOf [cellsOf (ρ x), cellsOf (ρ y)]) e)) :=
  exec_bs hu hinf hzs hp hq ρ dst t pos aft gd w [x, y] (by simp) (by simp) (fun q hq => by simp at hq; rcases hq with rfl | rfl; exact ⟨h1, h2⟩; exact ⟨h3, h4⟩) #[(0, x), (1, y)] (by simp [zipFrom])
theorem exec_bs3 (x y u : Operand) (h1 : isAggV (ρ x) = true) (h2 : (cellsOf (ρ x)).size = size) (h3 : isAggV (ρ y) = true) (h4 : (cellsOf (ρ y)).size = size) (h5 : isAggV (ρ u) = true) (h6 : (cellsOf (ρ u)).size = size) :
    (execOp ρ ⟨dst, .buildSlice T 3 #[(0, x), (1, y), (2, u)], t, pos, aft, gd⟩).run P w = .ok (.value (.slice (some ⟨w.heap.size, 0, none⟩) 3 3)) (w.alloc (.cells (rowOf [cellsOf (ρ x), cellsOf (ρ y), cellsOf (ρ u)]) e)) :=
  exec_bs hu hinf hzs hp hq ρ dst t pos aft gd w [x, y, u] (by simp) (by simp) (fun q hq => by simp at hq; rcases hq with rfl | rfl | rfl; exact ⟨h1, h2⟩; exact ⟨h3, h4⟩; exact ⟨h5, h6⟩) #[(0, x), (1, y), (2, u)] (by simp [zipFrom])
end
end

end Go.Gu
