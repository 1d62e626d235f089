/-
  Rows and dirty pages that came in, opened.
-/
import Derived.Test.YtdadfgaomighnaaGreatDoorOpen
import Derived.Test.YtdadfgaomighnaaGreatDoorKeepA
namespace Go.Proofs.YtdadfgaomighnaaGreatDoor
open Go Go.ChangeShapes Go.WideShapes Go.ChangeAt Go.RowKit

theorem els_of_rows {α : Type} {W : World} {size : Nat} {cells : α → List Value} (hpos : 0 < size) (hc : ∀ a, (cells a).length = size) {v : Value} {L : List α} (h : RowsAt W size (fun cs a => cs = cells a) v L) : Els size cells W v L := by
  obtain ⟨A, c, rfl, hlc, _, hat⟩ := h
  refine ⟨A, c, rfl, hlc, flatMap_len hc L, fun h0 => ?_⟩
  obtain ⟨b, off, rfl, hb, hrow⟩ := hat h0
  refine ⟨_, rfl, hb, rfl, fun j u hj => ?_⟩
  have hlt := (List.getElem?_eq_some_iff.1 hj).1
  rw [flatMap_len hc L] at hlt
  have hi : j / size < L.length := (Nat.div_lt_iff_lt_mul hpos).2 hlt
  have hr : j % size < size := Nat.mod_lt _ hpos
  have hjj : j / size * size + j % size = j := by rw [Nat.mul_comm]; exact Nat.div_add_mod j size
  obtain ⟨cs, _, rfl, hcell⟩ := hrow (j / size) L[j / size] (List.getElem?_eq_getElem hi)
  have hg := flatMap_get hc (List.getElem?_eq_getElem hi) (j % size) hr
  rw [hjj, hj] at hg
  rw [addr_add, ← hjj, ← Nat.add_assoc]
  exact hcell _ u hg.symm
section
variable {H : Type} {enc : TypeId × Value → H} {P : Program} {W : World} {base : Nat} {sp : Nat → Bool} {held : Bool}
/-- A slice of elements whose cells are known. -/
theorem open_els {α : Type} (size : Nat) (cells : α → List Value) (hpos : 0 < size) (hl : ∀ a, (cells a).length = size) {t e : TypeId} {v : Value} {d : DataW H} {p : List MemPlace} {r : Reach} {b0 : Nat} (ht : P.underlying t = some (.slice e)) (hv : Value.okWide P W r b0 t v) (hc : P.cellsOf e = size)
    (h : DataW.Trod enc P W base sp held t v d p) (hE : ∀ n cs y, cs.length = size → DataW.trod enc P W base sp held n e cs = some y → ∃ a : α, cs = cells a) : ∃ L : List α, Els size cells W v L := by
  obtain ⟨A, n, c, rfl⟩ := okWide_slice ht hv
  obtain ⟨fuel, hf⟩ := h
  obtain ⟨L, hL⟩ := open_rows (E := fun cs a => cs = cells a) size hpos ht hc hf hE
  exact ⟨L, els_of_rows hpos hl hL⟩
theorem trod_fields2 {t : TypeId} {f0 f1 : Field} {fuel : Nat} {cs : List Value} {x : DataW H × List MemPlace} (ht : P.underlying t = some (.struct #[f0, f1])) (h : DataW.trod enc P W base sp held fuel t cs = some x) :
    (∃ y n, DataW.trod enc P W base sp held n f0.type ((cs.drop f0.offset).take (P.cellsOf f0.type)) = some y) ∧
      (∃ y n, DataW.trod enc P W base sp held n f1.type ((cs.drop f1.offset).take (P.cellsOf f1.type)) = some y) := by
  obtain ⟨xs, n, _, rfl, hl, hlen, hf⟩ := DataW.trod_struct ht h
  match xs, hlen with
  | [y0, y1], _ => exact ⟨⟨y0, n, by simpa using hf 0 f0 rfl⟩, ⟨y1, n, by simpa using hf 1 f1 rfl⟩⟩
theorem trod_fields8 {t : TypeId} {f0 f1 f2 f3 f4 f5 f6 f7 : Field} {fuel : Nat} {cs : List Value} {x : DataW H × List MemPlace} (ht : P.underlying t = some (.struct #[f0, f1, f2, f3, f4, f5, f6, f7])) (h : DataW.trod enc P W base sp held fuel t cs = some x) :
    (∃ y n, DataW.trod enc P W base sp held n f0.type ((cs.drop f0.offset).take (P.cellsOf f0.type)) = some y) ∧
      (∃ y n, DataW.trod enc P W base sp held n f1.type ((cs.drop f1.offset).take (P.cellsOf f1.type)) = some y) ∧
      (∃ y n, DataW.trod enc P W base sp held n f2.type ((cs.drop f2.offset).take (P.cellsOf f2.type)) = some y) ∧
      (∃ y n, DataW.trod enc P W base sp held n f3.type ((cs.drop f3.offset).take (P.cellsOf f3.type)) = some y) ∧
      (∃ y n, DataW.trod enc P W base sp held n f4.type ((cs.drop f4.offset).take (P.cellsOf f4.type)) = some y) ∧
      (∃ y n, DataW.trod enc P W base sp held n f5.type ((cs.drop f5.offset).take (P.cellsOf f5.type)) = some y) ∧
      (∃ y n, DataW.trod enc P W base sp held n f6.type ((cs.drop f6.offset).take (P.cellsOf f6.type)) = some y) ∧
      (∃ y n, DataW.trod enc P W base sp held n f7.type ((cs.drop f7.offset).take (P.cellsOf f7.type)) = some y) := by
  obtain ⟨xs, n, _, rfl, hl, hlen, hf⟩ := DataW.trod_struct ht h
  match xs, hlen with
  | [y0, y1, y2, y3, y4, y5, y6, y7], _ => exact ⟨⟨y0, n, by simpa using hf 0 f0 rfl⟩, ⟨y1, n, by simpa using hf 1 f1 rfl⟩, ⟨y2, n, by simpa using hf 2 f2 rfl⟩, ⟨y3, n, by simpa using hf 3 f3 rfl⟩, ⟨y4, n, by simpa using hf 4 f4 rfl⟩, ⟨y5, n, by simpa using hf 5 f5 rfl⟩, ⟨y6, n, by simpa using hf 6 f6 rfl⟩, ⟨y7, n, by simpa using hf 7 f7 rfl⟩⟩
theorem trod_slice {t e : TypeId} {n : Nat} {v : Value} {y : DataW H × List MemPlace} (ht : P.underlying t = some (.slice e)) (h : DataW.trod enc P W base sp held n t [v] = some y) : ∃ A k c, v = .slice A k c := by
  rcases Deep.open_slice ht h with ⟨e2, _⟩ | ⟨a, len, cap, k, m, D, Pl, e2, _⟩
  · simp only [List.cons.injEq, and_true] at e2
    exact ⟨_, _, _, e2⟩
  · simp only [List.cons.injEq, and_true] at e2
    exact ⟨_, _, _, e2⟩
end
set_option maxRecDepth 100000
section
variable {H : Type} {enc : TypeId × Value → H} {W : World} {base : Nat} {sp : Nat → Bool} {held : Bool}
theorem one_int : Tryz.prog.cellsOf 3 = 1 := by kernel_rfl
theorem one_ints : Tryz.prog.cellsOf 22 = 1 := by kernel_rfl
theorem one_locks : Tryz.prog.cellsOf 103 = 1 := by kernel_rfl
theorem row_open {n : Nat} {cs : List Value} {y : DataW H × List MemPlace} (hl : cs.length = 8) (h : DataW.trod enc Tryz.prog W base sp held n 105 cs = some y) : ∃ r : RowV, cs = r.cells := by
  match cs, hl with
  | [c0, c1, c2, c3, c4, c5, c6, c7], _ =>
    obtain ⟨⟨z0, m0, g0⟩, ⟨z1, m1, g1⟩, ⟨z2, m2, g2⟩, ⟨z3, m3, g3⟩, ⟨z4, m4, g4⟩, ⟨z5, m5, g5⟩, ⟨z6, m6, g6⟩, ⟨z7, m7, g7⟩⟩ := trod_fields8 Tryz.underlying105 h
    simp only [one_int, one_ints, one_locks, List.drop_succ_cons, List.drop_zero, List.take_succ_cons, List.take_zero] at g0 g1 g2 g3 g4 g5 g6 g7
    obtain ⟨k0, e0, _, _⟩ := DataW.trod_int Tryz.underlying3 g0
    obtain ⟨k1, e1, _, _⟩ := DataW.trod_int Tryz.underlying3 g1
    obtain ⟨k2, e2, _, _⟩ := DataW.trod_int Tryz.underlying3 g2
    obtain ⟨k3, e3, _, _⟩ := DataW.trod_int Tryz.underlying3 g3
    obtain ⟨k4, e4, _, _⟩ := DataW.trod_int Tryz.underlying3 g4
    obtain ⟨k5, e5, _, _⟩ := DataW.trod_int Tryz.underlying3 g5
    obtain ⟨A6, n6, c6, e6⟩ := trod_slice Tryz.underlying22 g6
    obtain ⟨A7, n7, c7, e7⟩ := trod_slice Tryz.underlying103 g7
    simp only [List.cons.injEq, and_true] at e0 e1 e2 e3 e4 e5
    subst e0 e1 e2 e3 e4 e5 e6 e7
    exact ⟨⟨k0, k1, k2, k3, k4, k5, A6, n6, c6, A7, n7, c7⟩, rfl⟩
theorem dirty_open {n : Nat} {cs : List Value} {y : DataW H × List MemPlace} (hl : cs.length = 2) (h : DataW.trod enc Tryz.prog W base sp held n 237 cs = some y) : ∃ d : Int × Int, cs = dirtyCells d := by
  match cs, hl with
  | [c0, c1], _ =>
    obtain ⟨⟨z0, m0, g0⟩, ⟨z1, m1, g1⟩⟩ := trod_fields2 Tryz.underlying237 h
    simp only [one_int, List.drop_succ_cons, List.drop_zero, List.take_succ_cons, List.take_zero] at g0 g1
    obtain ⟨k0, e0, _, _⟩ := DataW.trod_int Tryz.underlying3 g0
    obtain ⟨k1, e1, _, _⟩ := DataW.trod_int Tryz.underlying3 g1
    simp only [List.cons.injEq, and_true] at e0 e1
    subst e0 e1
    exact ⟨(k0, k1), rfl⟩
end
end Go.Proofs.YtdadfgaomighnaaGreatDoor
