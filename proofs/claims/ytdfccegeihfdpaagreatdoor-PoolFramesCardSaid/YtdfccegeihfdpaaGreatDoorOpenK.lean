/-
  Slices of structs that came in, opened.
-/
import Derived.Test.YtdfccegeihfdpaaGreatDoorOpen
import Derived.Test.YtdfccegeihfdpaaGreatDoorPgV
namespace Go.Proofs.YtdfccegeihfdpaaGreatDoor
open Go Go.ChangeShapes Go.WideShapes Go.ChangeAt Go.RowKit

theorem els_of_rows {α : Type} {W : World} {size : Nat} {cells : α → List Value} (hpos : 0 < size) (hc : ∀ a, (cells a).length = size) {v : Value} {L : List α} (h : RowsAt W size (fun cs a => cs = cells a) v L) : Els size cells W v L := by
  obtain ⟨A, c, rfl, hlc, _, hat⟩ := h
  refine ⟨A, c, rfl, hlc, flatMap_len hc L, fun h0 => ?_⟩
  obtain ⟨b, off, rfl, hb, hrow⟩ := hat h0
  refine ⟨_, rfl, hb, rfl, fun j u hj => ?_⟩
  have hlt := (List.getElem?_eq_some_iff.1 hj).1
  rw [flatMap_len hc L] at hlt
  have hi : j / size < L.length := (Nat.div_lt_iff_lt_mul hpos).2 hlt
  have hr : j % size < size := Nat.mod_lt _ hpos
  have hjj : j / size * size + j % size = j := by rw [Nat.mul_comm]; exact Nat.div_add_mod j size
  obtain ⟨cs, _, rfl, hcell⟩ := hrow (j / size) L[j / size] (List.getElem?_eq_getElem hi)
  have hg := flatMap_get hc (List.getElem?_eq_getElem hi) (j % size) hr
  rw [hjj, hj] at hg
  rw [addr_add, ← hjj, ← Nat.add_assoc]
  exact hcell _ u hg.symm
section
variable {H : Type} {enc : TypeId × Value → H} {P : Program} {W : World} {base : Nat} {sp : Nat → Bool} {held : Bool}
/-- A slice of elements whose cells are known. -/
theorem open_els {α : Type} (size : Nat) (cells : α → List Value) (hpos : 0 < size) (hl : ∀ a, (cells a).length = size) {t e : TypeId} {v : Value} {d : DataW H} {p : List MemPlace} {r : Reach} {b0 : Nat} (ht : P.underlying t = some (.slice e)) (hv : Value.okWide P W r b0 t v) (hc : P.cellsOf e = size)
    (h : DataW.Trod enc P W base sp held t v d p) (hE : ∀ n cs y, cs.length = size → DataW.trod enc P W base sp held n e cs = some y → ∃ a : α, cs = cells a) : ∃ L : List α, Els size cells W v L := by
  obtain ⟨A, n, c, rfl⟩ := okWide_slice ht hv
  obtain ⟨fuel, hf⟩ := h
  obtain ⟨L, hL⟩ := open_rows (E := fun cs a => cs = cells a) size hpos ht hc hf hE
  exact ⟨L, els_of_rows hpos hl hL⟩
theorem trod_fields2 {t : TypeId} {f0 f1 : Field} {fuel : Nat} {cs : List Value} {x : DataW H × List MemPlace} (ht : P.underlying t = some (.struct #[f0, f1])) (h : DataW.trod enc P W base sp held fuel t cs = some x) :
    (∃ y n, DataW.trod enc P W base sp held n f0.type ((cs.drop f0.offset).take (P.cellsOf f0.type)) = some y) ∧
      (∃ y n, DataW.trod enc P W base sp held n f1.type ((cs.drop f1.offset).take (P.cellsOf f1.type)) = some y) := by
  obtain ⟨xs, n, _, rfl, hl, hlen, hf⟩ := DataW.trod_struct ht h
  match xs, hlen with
  | [y0, y1], _ => exact ⟨⟨y0, n, by simpa using hf 0 f0 rfl⟩, ⟨y1, n, by simpa using hf 1 f1 rfl⟩⟩
theorem trod_fields4 {t : TypeId} {f0 f1 f2 f3 : Field} {fuel : Nat} {cs : List Value} {x : DataW H × List MemPlace} (ht : P.underlying t = some (.struct #[f0, f1, f2, f3])) (h : DataW.trod enc P W base sp held fuel t cs = some x) :
    (∃ y n, DataW.trod enc P W base sp held n f0.type ((cs.drop f0.offset).take (P.cellsOf f0.type)) = some y) ∧
      (∃ y n, DataW.trod enc P W base sp held n f1.type ((cs.drop f1.offset).take (P.cellsOf f1.type)) = some y) ∧
      (∃ y n, DataW.trod enc P W base sp held n f2.type ((cs.drop f2.offset).take (P.cellsOf f2.type)) = some y) ∧
      (∃ y n, DataW.trod enc P W base sp held n f3.type ((cs.drop f3.offset).take (P.cellsOf f3.type)) = some y) := by
  obtain ⟨xs, n, _, rfl, hl, hlen, hf⟩ := DataW.trod_struct ht h
  match xs, hlen with
  | [y0, y1, y2, y3], _ => exact ⟨⟨y0, n, by simpa using hf 0 f0 rfl⟩, ⟨y1, n, by simpa using hf 1 f1 rfl⟩, ⟨y2, n, by simpa using hf 2 f2 rfl⟩, ⟨y3, n, by simpa using hf 3 f3 rfl⟩⟩
theorem trod_slice {t e : TypeId} {n : Nat} {v : Value} {y : DataW H × List MemPlace} (ht : P.underlying t = some (.slice e)) (h : DataW.trod enc P W base sp held n t [v] = some y) : ∃ A k c, v = .slice A k c := by
  rcases Deep.open_slice ht h with ⟨e2, _⟩ | ⟨a, len, cap, k, m, D, Pl, e2, _⟩
  · simp only [List.cons.injEq, and_true] at e2
    exact ⟨_, _, _, e2⟩
  · simp only [List.cons.injEq, and_true] at e2
    exact ⟨_, _, _, e2⟩
end
theorem str_list (s : ByteArray) : ∃ b : Bs, Value.string s = strV b := by
  obtain ⟨⟨l⟩⟩ := s
  exact ⟨l, rfl⟩
theorem one_int : Tryz.prog.cellsOf 3 = 1 := by kernel_rfl
theorem one_str : Tryz.prog.cellsOf 9 = 1 := by kernel_rfl
theorem one_bool : Tryz.prog.cellsOf 4 = 1 := by kernel_rfl
theorem two_val : Tryz.prog.cellsOf 32 = 2 := by kernel_rfl
set_option maxRecDepth 100000
theorem five_call : Tryz.prog.cellsOf 61 = 5 := by kernel_rfl
section
variable {H : Type} {enc : TypeId × Value → H} {W : World} {base : Nat} {sp : Nat → Bool} {held : Bool}
theorem pcall_open {n : Nat} {cs : List Value} {y : DataW H × List MemPlace} (hl : cs.length = 5) (h : DataW.trod enc Tryz.prog W base sp held n 61 cs = some y) : ∃ z : CaV, cs = z.cells := by
  match cs, hl with
  | [c0, c1, c2, c3, c4], _ =>
    obtain ⟨⟨y0, m0, g0⟩, ⟨y1, m1, g1⟩, ⟨y2, m2, g2⟩, ⟨y3, m3, g3⟩⟩ := trod_fields4 Tryz.underlying61 h
    simp only [one_int, one_str, two_val, List.drop_succ_cons, List.drop_zero, List.take_succ_cons, List.take_zero] at g0 g1 g2 g3
    obtain ⟨k, e0, _, _⟩ := DataW.trod_int Tryz.underlying3 g0
    obtain ⟨n1, e1, _, _⟩ := DataW.trod_int Tryz.underlying3 g1
    obtain ⟨s, e2, _, _⟩ := DataW.trod_string Tryz.underlying9 g2
    obtain ⟨⟨ya, ma, ga⟩, ⟨yb, mb, gb⟩⟩ := trod_fields2 Tryz.underlying32 g3
    simp only [one_bool, one_str, List.drop_succ_cons, List.drop_zero, List.take_succ_cons, List.take_zero] at ga gb
    obtain ⟨b, ea, _⟩ := DataW.trod_bool Tryz.underlying4 ga
    obtain ⟨s2, eb, _, _⟩ := DataW.trod_string Tryz.underlying9 gb
    obtain ⟨l1, el1⟩ := str_list s
    obtain ⟨l2, el2⟩ := str_list s2
    simp only [List.cons.injEq, and_true] at e0 e1 e2 ea eb
    subst e0 e1 e2 ea eb
    exact ⟨⟨k, n1, l1, b, l2⟩, by rw [el1, el2]; rfl⟩
theorem open_pcalls {r : Reach} {b0 : Nat} {v : Value} {d : DataW H} {p : List MemPlace} (hv : Value.okWide Tryz.prog W r b0 55 v) (h : DataW.Trod enc Tryz.prog W base sp held 55 v d p) :
    ∃ (A : Option Addr) (n c : Nat) (L : List CaV), v = .slice A n c ∧ L.length = n ∧ Els 5 CaV.cells W (.slice A n c) L := by
  obtain ⟨A, n, c, rfl⟩ := okWide_slice Tryz.underlying55 hv
  obtain ⟨L, hE⟩ := open_els 5 CaV.cells (by decide) CaV.cells_len Tryz.underlying55 hv five_call h fun n cs y hl hy => pcall_open hl hy
  have hE' := hE
  obtain ⟨A', c', e, _⟩ := hE'
  injection e with e1 e2 e3
  exact ⟨A, n, c, L, rfl, e2.symm, hE⟩
end
end Go.Proofs.YtdfccegeihfdpaaGreatDoor
