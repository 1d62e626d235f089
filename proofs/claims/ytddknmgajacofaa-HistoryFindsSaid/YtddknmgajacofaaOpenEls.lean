/-
  Slices of structs that came in, opened.
-/
import Derived.Test.YtddknmgajacofaaOpen
import Derived.Test.YtddknmgajacofaaKeepA
namespace Go.Proofs.Ytddknmgajacofaa
open Go Go.ChangeShapes Go.WideShapes Go.ChangeAt Go.RowKit

theorem els_of_rows {α : Type} {W : World} {size : Nat} {cells : α → List Value} (hpos : 0 < size) (hc : ∀ a, (cells a).length = size) {v : Value} {L : List α} (h : RowsAt W size (fun cs a => cs = cells a) v L) : Els size cells W v L := by
  obtain ⟨A, c, rfl, hlc, _, hat⟩ := h
  refine ⟨A, c, rfl, hlc, flatMap_len hc L, fun h0 => ?_⟩
  obtain ⟨b, off, rfl, hb, hrow⟩ := hat h0
  refine ⟨_, rfl, hb, rfl, fun j u hj => ?_⟩
  have hlt := (List.getElem?_eq_some_iff.1 hj).1
  rw [flatMap_len hc L] at hlt
  have hi : j / size < L.length := (Nat.div_lt_iff_lt_mul hpos).2 hlt
  have hr : j % size < size := Nat.mod_lt _ hpos
  have hjj : j / size * size + j % size = j := by rw [Nat.mul_comm]; exact Nat.div_add_mod j size
  obtain ⟨cs, _, rfl, hcell⟩ := hrow (j / size) L[j / size] (List.getElem?_eq_getElem hi)
  have hg := flatMap_get hc (List.getElem?_eq_getElem hi) (j % size) hr
  rw [hjj, hj] at hg
  rw [addr_add, ← hjj, ← Nat.add_assoc]
  exact hcell _ u hg.symm
section
variable {H : Type} {enc : TypeId × Value → H} {P : Program} {W : World} {base : Nat} {sp : Nat → Bool} {held : Bool}
/-- A slice of elements whose cells are known. -/
theorem open_els {α : Type} (size : Nat) (cells : α → List Value) (hpos : 0 < size) (hl : ∀ a, (cells a).length = size) {t e : TypeId} {v : Value} {d : DataW H} {p : List MemPlace} {r : Reach} {b0 : Nat} (ht : P.underlying t = some (.slice e)) (hv : Value.okWide P W r b0 t v) (hc : P.cellsOf e = size)
    (h : DataW.Trod enc P W base sp held t v d p) (hE : ∀ n cs y, cs.length = size → DataW.trod enc P W base sp held n e cs = some y → ∃ a : α, cs = cells a) : ∃ L : List α, Els size cells W v L := by
  obtain ⟨A, n, c, rfl⟩ := okWide_slice ht hv
  obtain ⟨fuel, hf⟩ := h
  obtain ⟨L, hL⟩ := open_rows (E := fun cs a => cs = cells a) size hpos ht hc hf hE
  exact ⟨L, els_of_rows hpos hl hL⟩
theorem trod_fields2 {t : TypeId} {f0 f1 : Field} {fuel : Nat} {cs : List Value} {x : DataW H × List MemPlace} (ht : P.underlying t = some (.struct #[f0, f1])) (h : DataW.trod enc P W base sp held fuel t cs = some x) :
    (∃ y n, DataW.trod enc P W base sp held n f0.type ((cs.drop f0.offset).take (P.cellsOf f0.type)) = some y) ∧
      (∃ y n, DataW.trod enc P W base sp held n f1.type ((cs.drop f1.offset).take (P.cellsOf f1.type)) = some y) := by
  obtain ⟨xs, n, _, rfl, hl, hlen, hf⟩ := DataW.trod_struct ht h
  match xs, hlen with
  | [y0, y1], _ => exact ⟨⟨y0, n, by simpa using hf 0 f0 rfl⟩, ⟨y1, n, by simpa using hf 1 f1 rfl⟩⟩
theorem trod_fields4 {t : TypeId} {f0 f1 f2 f3 : Field} {fuel : Nat} {cs : List Value} {x : DataW H × List MemPlace} (ht : P.underlying t = some (.struct #[f0, f1, f2, f3])) (h : DataW.trod enc P W base sp held fuel t cs = some x) :
    (∃ y n, DataW.trod enc P W base sp held n f0.type ((cs.drop f0.offset).take (P.cellsOf f0.type)) = some y) ∧
      (∃ y n, DataW.trod enc P W base sp held n f1.type ((cs.drop f1.offset).take (P.cellsOf f1.type)) = some y) ∧
      (∃ y n, DataW.trod enc P W base sp held n f2.type ((cs.drop f2.offset).take (P.cellsOf f2.type)) = some y) ∧
      (∃ y n, DataW.trod enc P W base sp held n f3.type ((cs.drop f3.offset).take (P.cellsOf f3.type)) = some y) := by
  obtain ⟨xs, n, _, rfl, hl, hlen, hf⟩ := DataW.trod_struct ht h
  match xs, hlen with
  | [y0, y1, y2, y3], _ => exact ⟨⟨y0, n, by simpa using hf 0 f0 rfl⟩, ⟨y1, n, by simpa using hf 1 f1 rfl⟩, ⟨y2, n, by simpa using hf 2 f2 rfl⟩, ⟨y3, n, by simpa using hf 3 f3 rfl⟩⟩
theorem trod_slice {t e : TypeId} {n : Nat} {v : Value} {y : DataW H × List MemPlace} (ht : P.underlying t = some (.slice e)) (h : DataW.trod enc P W base sp held n t [v] = some y) : ∃ A k c, v = .slice A k c := by
  rcases Deep.open_slice ht h with ⟨e2, _⟩ | ⟨a, len, cap, k, m, D, Pl, e2, _⟩
  · simp only [List.cons.injEq, and_true] at e2
    exact ⟨_, _, _, e2⟩
  · simp only [List.cons.injEq, and_true] at e2
    exact ⟨_, _, _, e2⟩
end
end Go.Proofs.Ytddknmgajacofaa
