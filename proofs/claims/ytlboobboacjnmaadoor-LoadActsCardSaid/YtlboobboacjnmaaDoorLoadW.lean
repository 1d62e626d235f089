/-
  A mix that came in, opened; the tables as the row lays them.
-/
import Derived.Test.YtlboobboacjnmaaDoorLoadV
import Derived.Test.YtlboobboacjnmaaDoorPost
import Derived.Test.YtlboobboacjnmaaDoorTie
import Derived.Test.YtlboobboacjnmaaDoorCards
import Derived.LaidMore
import Derived.Lay
import Derived.SevenTiedAt
import Derived.Stop.Joined
import Derived.Lib.SmallJoins
namespace Go.Proofs.YtlboobboacjnmaaDoor
open Go Go.ChangeShapes Go.WideShapes Go.ChangeAt Go.RowKit

abbrev laid3 : List (String × DataW Unit) := [("math/bits.deBruijn32tab", Rows.laid_math_bits_deBruijn32tab), ("math/bits.deBruijn64tab", Rows.laid_math_bits_deBruijn64tab), ("internal/strconv.uint64pow10", Rows.laid_internal_strconv_uint64pow10)]
section
variable {H : Type} {enc : TypeId × Value → H} {P : Program} {W : World} {base : Nat} {sp : Nat → Bool} {held : Bool}
theorem trod_fields8 {t : TypeId} {f0 f1 f2 f3 f4 f5 f6 f7 : Field} {fuel : Nat} {cs : List Value} {x : DataW H × List MemPlace} (ht : P.underlying t = some (.struct #[f0, f1, f2, f3, f4, f5, f6, f7])) (h : DataW.trod enc P W base sp held fuel t cs = some x) :
    (∃ y n, DataW.trod enc P W base sp held n f0.type ((cs.drop f0.offset).take (P.cellsOf f0.type)) = some y) ∧
      (∃ y n, DataW.trod enc P W base sp held n f1.type ((cs.drop f1.offset).take (P.cellsOf f1.type)) = some y) ∧
      (∃ y n, DataW.trod enc P W base sp held n f2.type ((cs.drop f2.offset).take (P.cellsOf f2.type)) = some y) ∧
      (∃ y n, DataW.trod enc P W base sp held n f3.type ((cs.drop f3.offset).take (P.cellsOf f3.type)) = some y) ∧
      (∃ y n, DataW.trod enc P W base sp held n f4.type ((cs.drop f4.offset).take (P.cellsOf f4.type)) = some y) ∧
      (∃ y n, DataW.trod enc P W base sp held n f5.type ((cs.drop f5.offset).take (P.cellsOf f5.type)) = some y) ∧
      (∃ y n, DataW.trod enc P W base sp held n f6.type ((cs.drop f6.offset).take (P.cellsOf f6.type)) = some y) ∧
      (∃ y n, DataW.trod enc P W base sp held n f7.type ((cs.drop f7.offset).take (P.cellsOf f7.type)) = some y) := by
  obtain ⟨xs, n, _, rfl, hl, hlen, hf⟩ := DataW.trod_struct ht h
  match xs, hlen with
  | [y0, y1, y2, y3, y4, y5, y6, y7], _ => exact ⟨⟨y0, n, by simpa using hf 0 f0 rfl⟩, ⟨y1, n, by simpa using hf 1 f1 rfl⟩, ⟨y2, n, by simpa using hf 2 f2 rfl⟩, ⟨y3, n, by simpa using hf 3 f3 rfl⟩, ⟨y4, n, by simpa using hf 4 f4 rfl⟩, ⟨y5, n, by simpa using hf 5 f5 rfl⟩, ⟨y6, n, by simpa using hf 6 f6 rfl⟩, ⟨y7, n, by simpa using hf 7 f7 rfl⟩⟩
end
theorem one_int : Tryd.prog.cellsOf 3 = 1 := by kernel_rfl
theorem eight_mix : Tryd.prog.cellsOf 24 = 8 := by kernel_rfl
theorem open_mix {H : Type} {enc : TypeId × Value → H} {W : World} {base : Nat} {sp : Nat → Bool} {held : Bool} {r : Reach} {b0 : Nat} {v : Value} {d : DataW H} {p : List MemPlace} (hv : Value.okWide Tryd.prog W r b0 24 v) (h : DataW.Trod enc Tryd.prog W base sp held 24 v d p) : ∃ m : MixD, v = m.val := by
  obtain ⟨⟨cs⟩, rfl, hsz⟩ := okWide_struct Tryd.underlying24 hv
  have hl : cs.length = 8 := hsz.trans eight_mix
  obtain ⟨fuel, hf⟩ := h
  have hf : DataW.trod enc Tryd.prog W base sp held fuel 24 cs = some (d, p) := hf
  obtain ⟨⟨z0, m0, g0⟩, ⟨z1, m1, g1⟩, ⟨z2, m2, g2⟩, ⟨z3, m3, g3⟩, ⟨z4, m4, g4⟩, ⟨z5, m5, g5⟩, ⟨z6, m6, g6⟩, ⟨z7, m7, g7⟩⟩ := trod_fields8 Tryd.underlying24 hf
  match cs, hl with
  | [c0, c1, c2, c3, c4, c5, c6, c7], _ =>
    simp only [one_int, List.drop_succ_cons, List.drop_zero, List.take_succ_cons, List.take_zero] at g0 g1 g2 g3 g4 g5 g6 g7
    obtain ⟨k0, e0, _, _⟩ := DataW.trod_int Tryd.underlying3 g0
    obtain ⟨k1, e1, _, _⟩ := DataW.trod_int Tryd.underlying3 g1
    obtain ⟨k2, e2, _, _⟩ := DataW.trod_int Tryd.underlying3 g2
    obtain ⟨k3, e3, _, _⟩ := DataW.trod_int Tryd.underlying3 g3
    obtain ⟨k4, e4, _, _⟩ := DataW.trod_int Tryd.underlying3 g4
    obtain ⟨k5, e5, _, _⟩ := DataW.trod_int Tryd.underlying3 g5
    obtain ⟨k6, e6, _, _⟩ := DataW.trod_int Tryd.underlying3 g6
    obtain ⟨k7, e7, _, _⟩ := DataW.trod_int Tryd.underlying3 g7
    simp only [List.cons.injEq, and_true] at e0 e1 e2 e3 e4 e5 e6 e7
    subst e0 e1 e2 e3 e4 e5 e6 e7
    exact ⟨⟨k0, k1, k2, k3, k4, k5, k6, k7⟩, rfl⟩
theorem loadActs_walk (x : Int) (m : MixD) (w : World) : Calls Tryd.prog 3 #[.int .u64 x, m.val] w fun e w' => e = .returned (.bool true) ∧ Below w.heap.size w w' := by
  cases hm : mayB m with
  | false => exact (law_no x m w hm).mono fun e w' ⟨he, hu⟩ => ⟨he, hu.toBelow fun _ _ h => h⟩
  | true => exact (law_yes x m w hm).mono fun e w' ⟨he, hu⟩ => ⟨he, hu.toBelow fun _ _ h => h⟩
end Go.Proofs.YtlboobboacjnmaaDoor
