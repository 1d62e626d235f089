/-
  Events and numbers that came in, opened.
-/
import Derived.Test.YtddknmgajacofaaPost
import Derived.Test.YtddknmgajacofaaOpenEls
import Derived.Test.YtddknmgajacofaaHistC
namespace Go.Proofs.Ytddknmgajacofaa
open Go Go.ChangeShapes Go.WideShapes Go.ChangeAt Go.RowKit

set_option maxRecDepth 100000
section
variable {H : Type} {enc : TypeId × Value → H} {W : World} {base : Nat} {sp : Nat → Bool} {held : Bool}
theorem one_int : Try.prog.cellsOf 3 = 1 := by kernel_rfl
theorem one_bool : Try.prog.cellsOf 4 = 1 := by kernel_rfl
theorem one_string : Try.prog.cellsOf 9 = 1 := by kernel_rfl
theorem two_value : Try.prog.cellsOf 35 = 2 := by kernel_rfl
theorem event_open {n : Nat} {cs : List Value} {y : DataW H × List MemPlace} (hl : cs.length = 5) (h : DataW.trod enc Try.prog W base sp held n 41 cs = some y) : ∃ e : EvD, cs = e.cells := by
  match cs, hl with
  | [c0, c1, c2, c3, c4], _ =>
    obtain ⟨⟨z0, m0, g0⟩, ⟨z1, m1, g1⟩, ⟨z2, m2, g2⟩, ⟨z3, m3, g3⟩⟩ := trod_fields4 Try.underlying41 h
    simp only [one_int, one_string, two_value, List.drop_succ_cons, List.drop_zero, List.take_succ_cons, List.take_zero] at g0 g1 g2 g3
    obtain ⟨⟨z4, m4, g4⟩, ⟨z5, m5, g5⟩⟩ := trod_fields2 Try.underlying35 g3
    simp only [one_bool, one_string, List.drop_succ_cons, List.drop_zero, List.take_succ_cons, List.take_zero] at g4 g5
    obtain ⟨k0, e0, _, _⟩ := DataW.trod_int Try.underlying3 g0
    obtain ⟨k1, e1, _, _⟩ := DataW.trod_int Try.underlying3 g1
    obtain ⟨k2, e2, _, _⟩ := DataW.trod_string Try.underlying9 g2
    obtain ⟨k4, e4, _⟩ := DataW.trod_bool Try.underlying4 g4
    obtain ⟨k5, e5, _, _⟩ := DataW.trod_string Try.underlying9 g5
    simp only [List.cons.injEq, and_true] at e0 e1 e2 e4 e5
    subst e0 e1 e2 e4 e5
    exact ⟨⟨k0, k1, k2, k4, k5⟩, rfl⟩
theorem num_open {n : Nat} {cs : List Value} {y : DataW H × List MemPlace} (_hl : cs.length = 1) (h : DataW.trod enc Try.prog W base sp held n 3 cs = some y) : ∃ k : Int, cs = [.int .i64 k] := by
  obtain ⟨k, e, _, _⟩ := DataW.trod_int Try.underlying3 h
  exact ⟨k, e⟩
end
end Go.Proofs.Ytddknmgajacofaa
