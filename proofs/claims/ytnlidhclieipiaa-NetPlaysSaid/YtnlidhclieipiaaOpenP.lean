/-
  A parcel, and a slice of parcels, that came in.
-/
import Derived.Test.YtnlidhclieipiaaNetE
import Derived.Test.YtnlidhclieipiaaOpen
namespace Go.Proofs.Ytnlidhclieipiaa
open Go Go.ChangeShapes Go.WideShapes Go.ChangeAt Go.RowKit

/-- Cells that are a parcel's. -/
def PclAt (W : World) (cs : List Value) (x : Pcl × Value) : Prop := cs = (x.1.cells x.2).toList ∧ Reads W 1 x.2 x.1.body.length (bytesV x.1.body) ∧ x.1.body.length ≤ maxLen

section
variable {H : Type} {enc : TypeId × Value → H} {W : World} {base : Nat} {sp : Nat → Bool} {held : Bool}
theorem cells_parcel : Try.prog.cellsOf 28 = 4 := by kernel_rfl
theorem cells_int : Try.prog.cellsOf 3 = 1 := by kernel_rfl
theorem cells_bool : Try.prog.cellsOf 4 = 1 := by kernel_rfl
theorem cells_byte : Try.prog.cellsOf 5 = 1 := by kernel_rfl
theorem cells_bytes : Try.prog.cellsOf 26 = 1 := by kernel_rfl

theorem open_parcel_cells {n : Nat} {cs : List Value} {y : DataW H × List MemPlace} (hl : cs.length = 4) (h : DataW.trod enc Try.prog W base sp held n 28 cs = some y) : ∃ x, PclAt W cs x := by
  obtain ⟨y0, y1, y2, y3, m, _, _, h0, h1, h2, h3⟩ := Joins.trod_struct4 Try.underlying28 h
  match cs, hl with
  | [c0, c1, c2, c3], _ =>
    simp only [cells_int, cells_bool, cells_bytes, List.drop_succ_cons, List.drop_zero, List.take_succ_cons, List.take_zero] at h0 h1 h2 h3
    obtain ⟨a, e0, _, _⟩ := DataW.trod_int Try.underlying3 h0
    obtain ⟨b, e1, _, _⟩ := DataW.trod_int Try.underlying3 h1
    obtain ⟨s, e3, _⟩ := DataW.trod_bool Try.underlying4 h3
    simp only [List.cons.injEq, and_true] at e0 e1 e3
    subst e0 e1 e3
    obtain ⟨l, hl, hm⟩ := open_bytes Try.underlying26 Try.underlying5 cells_byte h2
    exact ⟨(⟨a, b, l, s⟩, c2), rfl, hl, hm⟩

theorem open_parcel {v : Value} {d : DataW H} {p : List MemPlace} {r : Reach} {b0 : Nat} (hv : Value.okWide Try.prog W r b0 28 v) (h : DataW.Trod enc Try.prog W base sp held 28 v d p) :
    ∃ x : Pcl × Value, v = x.1.val x.2 ∧ Reads W 1 x.2 x.1.body.length (bytesV x.1.body) ∧ x.1.body.length ≤ maxLen := by
  obtain ⟨cs, rfl, hsz⟩ := okWide_struct Try.underlying28 hv
  obtain ⟨fuel, hf⟩ := h
  obtain ⟨x, h1, h2, h3⟩ := open_parcel_cells (cs := cs.toList) (by rw [Array.length_toList, hsz, cells_parcel]) hf
  refine ⟨x, ?_, h2, h3⟩
  rw [Pcl.val]
  congr 1
  exact Array.toList_inj.1 h1

theorem open_parcels {m : Nat} {v : Value} {y : DataW H × List MemPlace} (h : DataW.trod enc Try.prog W base sp held m 22 [v] = some y) : ∃ L : Pcls, RowsAt W 4 (PclAt W) v L :=
  open_rows 4 (by omega) Try.underlying22 cells_parcel h fun _ _ _ hl hy => open_parcel_cells hl hy
end

theorem PclAt.below {W W' : World} {cs : List Value} {x : Pcl × Value} (h : PclAt W cs x) (hb : Below W.heap.size W W') : PclAt W' cs x := ⟨h.1, h.2.1.below hb, h.2.2⟩
end Go.Proofs.Ytnlidhclieipiaa
