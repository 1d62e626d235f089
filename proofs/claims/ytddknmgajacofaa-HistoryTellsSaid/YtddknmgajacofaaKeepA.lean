/-
  Slices of structs: how they read; rows and dirty pages; the least of numbers.
-/
import Derived.Test.YtddknmgajacofaaLib
namespace Go.Proofs.Ytddknmgajacofaa
open Go Go.RowKit

/-- A slice of elements of sz cells each. -/
def Els {α : Type} (sz : Nat) (cells : α → List Value) (w : World) (v : Value) (L : List α) : Prop := Reads w sz v L.length (L.flatMap cells)

theorem Reads.addr {w : World} {sz : Nat} {v : Value} {n : Nat} {xs : List Value} (h : Reads w sz v n xs) (h0 : 0 < n) : ∃ b off c, v = .slice (some ⟨b, off, none⟩) n c ∧ b < w.heap.size ∧ ∀ j u, xs[j]? = some u → w.cell? ⟨b, off + j, none⟩ = some u := by
  obtain ⟨A, c, rfl, hc, hl, h⟩ := h
  obtain ⟨⟨b, off, sp⟩, rfl, hb, hs, hcell⟩ := h h0
  have hs' : sp = none := hs
  subst hs'
  refine ⟨b, off, c, rfl, hb, fun j u hj => ?_⟩
  rw [← hcell j u hj]
  congr 1
  unfold Addr.add
  split
  · simp [*]
  · rfl
theorem flatMap_len {α : Type} {sz : Nat} {cells : α → List Value} (hc : ∀ a, (cells a).length = sz) (L : List α) : (L.flatMap cells).length = L.length * sz := by
  induction L with
  | nil => simp
  | cons a L ih => rw [List.flatMap_cons, List.length_append, ih, hc, List.length_cons, Nat.succ_mul]; omega
theorem flatMap_get {α : Type} {sz : Nat} {cells : α → List Value} (hc : ∀ a, (cells a).length = sz) : ∀ {L : List α} {i : Nat} {a : α}, L[i]? = some a → ∀ j, j < sz → (L.flatMap cells)[i * sz + j]? = (cells a)[j]? := by
  intro L
  induction L with
  | nil => intro i a h; simp at h
  | cons x L ih =>
    intro i a h j hj
    rw [List.flatMap_cons]
    cases i with
    | zero =>
      have e : x = a := by simpa using h
      subst e
      rw [List.getElem?_append_left (by rw [hc]; omega)]
      simp
    | succ i =>
      have h' : L[i]? = some a := by simpa using h
      rw [List.getElem?_append_right (by rw [hc, Nat.succ_mul]; omega), hc, ← ih h' j hj]
      congr 1
      rw [Nat.succ_mul]; omega

section
variable {α : Type} {sz : Nat} {cells : α → List Value} {F : Nat → Prop} {w w' : World} {v : Value} {L : List α}
theorem Els.upd (h : Els sz cells w v L) (hu : Upd F w w') (hn : ∀ k, v.ownBlock = some k → ¬ F k) : Els sz cells w' v L := Reads.upd h hu hn
theorem Els.alloc (h : Els sz cells w v L) (o : Obj) : Els sz cells (w.alloc o) v L := Reads.alloc h o
theorem Els.below (h : Els sz cells w v L) (hb : Below w.heap.size w w') : Els sz cells w' v L := Reads.below h hb
theorem Els.val (h : Els sz cells w v L) : ∃ A c, v = .slice A L.length c ∧ L.length ≤ c := Reads.val h
theorem Els.get (h : Els sz cells w v L) (hc : ∀ a, (cells a).length = sz) {i : Nat} {a : α} (ha : L[i]? = some a) : ∃ b off c, v = .slice (some ⟨b, off, none⟩) L.length c ∧ b < w.heap.size ∧ ∀ j, j < sz → w.cell? ⟨b, off + i * sz + j, none⟩ = (cells a)[j]? := by
  obtain ⟨hi, _⟩ := List.getElem?_eq_some_iff.1 ha
  obtain ⟨b, off, c, rfl, hb, hcell⟩ := Reads.addr h (by omega)
  refine ⟨b, off, c, rfl, hb, fun j hj => ?_⟩
  have h1 := flatMap_get hc ha j hj
  rw [List.getElem?_eq_getElem (by rw [hc]; omega : j < (cells a).length)] at h1 ⊢
  rw [Nat.add_assoc]
  exact hcell _ _ h1
end

/-- A row of a checkpoint: its numbers, and its slices' headers. -/
structure RowV where
  tx : Int
  st : Int
  first : Int
  last : Int
  undo : Int
  coord : Int
  am : Option Addr
  nm : Nat
  cm : Nat
  al : Option Addr
  nl : Nat
  cl : Nat
def RowV.cells (r : RowV) : List Value := [.int .i64 r.tx, .int .i64 r.st, .int .i64 r.first, .int .i64 r.last, .int .i64 r.undo, .int .i64 r.coord, .slice r.am r.nm r.cm, .slice r.al r.nl r.cl]
def dirtyCells (d : Int × Int) : List Value := [.int .i64 d.1, .int .i64 d.2]
theorem RowV.cells_len (r : RowV) : r.cells.length = 8 := rfl
theorem dirtyCells_len (d : Int × Int) : (dirtyCells d).length = 2 := rfl
abbrev RowsE := Els 8 RowV.cells
abbrev DirtyE := Els 2 dirtyCells
section
variable {w : World} {v : Value}
/-- One row. -/
theorem row_at {L : List RowV} (h : RowsE w v L) {i : Nat} {r : RowV} (hz : L[i]? = some r) : ∃ b off c, v = .slice (some ⟨b, off, none⟩) L.length c ∧ b < w.heap.size ∧
    w.cell? ⟨b, off + i * 8, none⟩ = some (.int .i64 r.tx) ∧ w.cell? ⟨b, off + i * 8 + 1, none⟩ = some (.int .i64 r.st) ∧ w.cell? ⟨b, off + i * 8 + 2, none⟩ = some (.int .i64 r.first) ∧ w.cell? ⟨b, off + i * 8 + 3, none⟩ = some (.int .i64 r.last) ∧
    w.cell? ⟨b, off + i * 8 + 4, none⟩ = some (.int .i64 r.undo) ∧ w.cell? ⟨b, off + i * 8 + 5, none⟩ = some (.int .i64 r.coord) ∧ w.cell? ⟨b, off + i * 8 + 6, none⟩ = some (.slice r.am r.nm r.cm) ∧ w.cell? ⟨b, off + i * 8 + 7, none⟩ = some (.slice r.al r.nl r.cl) := by
  obtain ⟨b, off, c, rfl, hb, hc⟩ := h.get RowV.cells_len hz
  exact ⟨b, off, c, rfl, hb, hc 0 (by omega), hc 1 (by omega), hc 2 (by omega), hc 3 (by omega), hc 4 (by omega), hc 5 (by omega), hc 6 (by omega), hc 7 (by omega)⟩
/-- One dirty page. -/
theorem dirty_at {L : List (Int × Int)} (h : DirtyE w v L) {i : Nat} {d : Int × Int} (hz : L[i]? = some d) : ∃ b off c, v = .slice (some ⟨b, off, none⟩) L.length c ∧ b < w.heap.size ∧
    w.cell? ⟨b, off + i * 2, none⟩ = some (.int .i64 d.1) ∧ w.cell? ⟨b, off + i * 2 + 1, none⟩ = some (.int .i64 d.2) := by
  obtain ⟨b, off, c, rfl, hb, hc⟩ := h.get dirtyCells_len hz
  exact ⟨b, off, c, rfl, hb, hc 0 (by omega), hc 1 (by omega)⟩
end

/-- The least of numbers. -/
def least (b : Int) (l : List Int) : Int := l.foldl (fun a n => if n < a then n else a) b
theorem least_snoc (b : Int) (l : List Int) (n : Int) : least b (l ++ [n]) = if n < least b l then n else least b l := by unfold least; rw [List.foldl_append]; rfl
/-- The rows' numbers that count. -/
def rowsL (L : List RowV) : List Int := (L.map (·.first)).filter fun n => 0 < n
/-- What is asked for, in the order in which it is looked at. -/
def firstsL (L : List RowV) (D : List (Int × Int)) : List Int := rowsL L ++ D.map (·.2)
theorem rowsL_step (L : List RowV) {k : Nat} {r : RowV} (hz : L[k]? = some r) : rowsL (L.take (k + 1)) = if 0 < r.first then rowsL (L.take k) ++ [r.first] else rowsL (L.take k) := by
  unfold rowsL
  rw [List.take_add_one, hz, Option.toList_some, List.map_append, List.filter_append]
  by_cases h : 0 < r.first <;> simp [h]
theorem rowsL_len (L : List RowV) (k : Nat) : (rowsL (L.take k)).length ≤ k := by
  unfold rowsL
  refine Nat.le_trans (List.length_filter_le _ _) ?_
  rw [List.length_map]
  exact List.length_take_le _ _
theorem dirtyL_step (D : List (Int × Int)) {k : Nat} {d : Int × Int} (hz : D[k]? = some d) : (D.take (k + 1)).map (·.2) = (D.take k).map (·.2) ++ [d.2] := by
  rw [List.take_add_one, hz]
  simp
end Go.Proofs.Ytddknmgajacofaa
