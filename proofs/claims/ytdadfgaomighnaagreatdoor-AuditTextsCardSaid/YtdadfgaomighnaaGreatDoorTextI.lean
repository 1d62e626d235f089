/-
  Looks that came in, opened; the tables, as the row lays them.
-/
import Derived.Test.YtdadfgaomighnaaGreatDoorTextH
import Derived.Test.YtdadfgaomighnaaGreatDoorOpenRow
import Derived.Test.YtdadfgaomighnaaGreatDoorLaid
import Derived.Lib.LaidTab
import Derived.Stop.LaidErr
namespace Go.Proofs.YtdadfgaomighnaaGreatDoor
open Go Go.ChangeShapes Go.WideShapes Go.ChangeAt Go.RowKit

section
variable {H : Type} {enc : TypeId × Value → H} {P : Program} {W : World} {base : Nat} {sp : Nat → Bool} {held : Bool}
theorem trod_fields7 {t : TypeId} {f0 f1 f2 f3 f4 f5 f6 : Field} {fuel : Nat} {cs : List Value} {x : DataW H × List MemPlace} (ht : P.underlying t = some (.struct #[f0, f1, f2, f3, f4, f5, f6])) (h : DataW.trod enc P W base sp held fuel t cs = some x) :
    (∃ y n, DataW.trod enc P W base sp held n f0.type ((cs.drop f0.offset).take (P.cellsOf f0.type)) = some y) ∧
      (∃ y n, DataW.trod enc P W base sp held n f1.type ((cs.drop f1.offset).take (P.cellsOf f1.type)) = some y) ∧
      (∃ y n, DataW.trod enc P W base sp held n f2.type ((cs.drop f2.offset).take (P.cellsOf f2.type)) = some y) ∧
      (∃ y n, DataW.trod enc P W base sp held n f3.type ((cs.drop f3.offset).take (P.cellsOf f3.type)) = some y) ∧
      (∃ y n, DataW.trod enc P W base sp held n f4.type ((cs.drop f4.offset).take (P.cellsOf f4.type)) = some y) ∧
      (∃ y n, DataW.trod enc P W base sp held n f5.type ((cs.drop f5.offset).take (P.cellsOf f5.type)) = some y) ∧
      (∃ y n, DataW.trod enc P W base sp held n f6.type ((cs.drop f6.offset).take (P.cellsOf f6.type)) = some y) := by
  obtain ⟨xs, n, _, rfl, hl, hlen, hf⟩ := DataW.trod_struct ht h
  match xs, hlen with
  | [y0, y1, y2, y3, y4, y5, y6], _ => exact ⟨⟨y0, n, by simpa using hf 0 f0 rfl⟩, ⟨y1, n, by simpa using hf 1 f1 rfl⟩, ⟨y2, n, by simpa using hf 2 f2 rfl⟩, ⟨y3, n, by simpa using hf 3 f3 rfl⟩, ⟨y4, n, by simpa using hf 4 f4 rfl⟩, ⟨y5, n, by simpa using hf 5 f5 rfl⟩, ⟨y6, n, by simpa using hf 6 f6 rfl⟩⟩
theorem trod_i64 {t : TypeId} {fuel : Nat} {v : Value} {x : DataW H × List MemPlace} (ht : P.underlying t = some (.int .i64)) (h : DataW.trod enc P W base sp held fuel t [v] = some x) : ∃ z : Int, v = .int .i64 z ∧ -9223372036854775808 ≤ z ∧ z ≤ 9223372036854775807 := by
  obtain ⟨z, e0, _, hw⟩ := DataW.trod_int ht h
  have hz : -9223372036854775808 ≤ z ∧ z ≤ 9223372036854775807 := by simpa [Lit.wf, IntKind.min, IntKind.max, IntKind.signed, IntKind.bits] using hw
  simp only [List.cons.injEq, and_true] at e0
  exact ⟨z, e0, hz⟩
end
set_option maxRecDepth 100000
section
variable {H : Type} {enc : TypeId × Value → H} {W : World} {base : Nat} {sp : Nat → Bool} {held : Bool}
theorem seven_audit : Tryz.prog.cellsOf 24 = 7 := by kernel_rfl
theorem open_audit {r : Reach} {b0 : Nat} {v : Value} {d : DataW H} {p : List MemPlace} (hv : Value.okWide Tryz.prog W r b0 24 v) (h : DataW.Trod enc Tryz.prog W base sp held 24 v d p) :
    ∃ (a : AuD) (A : Option Addr) (n c : Nat) (ns : List Int), a.ok ∧ v = .agg (a.cells A n c) ∧ IntsE W (.slice A n c) ns := by
  obtain ⟨⟨cs⟩, rfl, hsz⟩ := okWide_struct Tryz.underlying24 hv
  have hl : cs.length = 7 := hsz.trans seven_audit
  obtain ⟨fuel, hf⟩ := h
  have hf : DataW.trod enc Tryz.prog W base sp held fuel 24 cs = some (d, p) := hf
  obtain ⟨⟨z0, m0, g0⟩, ⟨z1, m1, g1⟩, ⟨z2, m2, g2⟩, ⟨z3, m3, g3⟩, ⟨z4, m4, g4⟩, ⟨z5, m5, g5⟩, ⟨z6, m6, g6⟩⟩ := trod_fields7 Tryz.underlying24 hf
  match cs, hl with
  | [c0, c1, c2, c3, c4, c5, c6], _ =>
    simp only [one_int, one_ints, List.drop_succ_cons, List.drop_zero, List.take_succ_cons, List.take_zero] at g0 g1 g2 g3 g4 g5 g6
    obtain ⟨k0, rfl, h0⟩ := trod_i64 Tryz.underlying3 g0
    obtain ⟨k1, rfl, h1⟩ := trod_i64 Tryz.underlying3 g1
    obtain ⟨k2, rfl, h2⟩ := trod_i64 Tryz.underlying3 g2
    obtain ⟨k3, rfl, h3⟩ := trod_i64 Tryz.underlying3 g3
    obtain ⟨k4, rfl, h4⟩ := trod_i64 Tryz.underlying3 g4
    obtain ⟨k5, rfl, h5⟩ := trod_i64 Tryz.underlying3 g5
    obtain ⟨A, n, c, rfl⟩ := trod_slice Tryz.underlying22 g6
    obtain ⟨ns, hns⟩ := open_rows (E := fun cs (n : Int) => cs = [Value.int .i64 n]) 1 (by omega) Tryz.underlying22 one_int g6 (fun n cs y hl hy => by
      obtain ⟨z, e, _, _⟩ := DataW.trod_int Tryz.underlying3 hy
      exact ⟨z, e⟩)
    exact ⟨⟨k0, k1, k2, k3, k4, k5⟩, A, n, c, ns, ⟨⟨h0, h1, h2⟩, h3, h4, h5⟩, rfl, els_of_rows (size := 1) (cells := fun n : Int => [Value.int .i64 n]) (by omega) (fun _ => rfl) hns⟩
end

abbrev laid5 : List (String × DataW Unit) := [("math/bits.deBruijn32tab", Rows.laid_math_bits_deBruijn32tab), ("math/bits.deBruijn64tab", Rows.laid_math_bits_deBruijn64tab), ("internal/strconv.uint64pow10", Rows.laid_internal_strconv_uint64pow10), ("troth/crc.half", Rows.laid_troth_crc_half), ("troth/audit.wrongs", Rows.laid_troth_audit_wrongs)]
theorem pow_laid {W : World} (h : laidMetH Tryz.prog laid5 W) : PowAt W := by
  rw [MakeChecks.laidMetH_plain _ _ _ (by kernel_rfl)] at h
  have h' : laidMet Tryz.prog (("internal/strconv.uint64pow10", Lib.tabData .u64 Lib.pow10Tab) :: [("troth/crc.half", Rows.laid_troth_crc_half), ("troth/audit.wrongs", Rows.laid_troth_audit_wrongs)]) W := h.tail.tail
  exact Lib.tabIs_of_head (g := 1) (by kernel_rfl) (by kernel_rfl) Tryz.underlying298 Tryz.underlying198 (by kernel_rfl) (by kernel_rfl) h'
theorem var_block {W : World} {n : String} {cs : Array Value} {g : Nat} (h : W.var? Tryz.prog n = some cs) (hg : Tryz.prog.globalNamed n = some g) : ∃ ty fz, W.heap[g]? = some (.cells cs ty fz) := by
  simp only [World.var?, hg, Option.bind_some] at h
  split at h
  · rename_i cs' ty fz hh
    simp only [Option.some.injEq] at h
    subst h
    exact ⟨ty, fz, hh⟩
  · cases h
theorem half_laid5 {W : World} (h : laidMetH Tryz.prog laid5 W) : HalfAt W := by
  rw [MakeChecks.laidMetH_plain _ _ _ (by kernel_rfl)] at h
  have h' : laidMet Tryz.prog (("troth/crc.half", Lib.tabData .u32 halfZ) :: [("troth/audit.wrongs", Rows.laid_troth_audit_wrongs)]) W := h.tail.tail.tail
  have := Lib.tabIs_of_head (g := 6) (by kernel_rfl) (by kernel_rfl) Tryz.underlying432 Tryz.underlying290 (by kernel_rfl) (by kernel_rfl) h'
  obtain ⟨ty, fz, hh⟩ := var_block (g := 6) this (by kernel_rfl)
  exact ⟨ty, fz, hh⟩
theorem wrongs_laid {W : World} (h : laidMetH Tryz.prog laid5 W) : WrongsAt W := by
  rw [MakeChecks.laidMetH_plain _ _ _ (by kernel_rfl)] at h
  have h := h.tail.tail.tail.tail
  obtain ⟨ps, ⟨g, t, cs, fuel, p, q, hg, ht, hv, hd, _, _⟩, _, _⟩ := h
  obtain rfl := Option.some.inj ((show Tryz.prog.globalNamed "troth/audit.wrongs" = some 0 by kernel_rfl).symm.trans hg)
  obtain rfl := Option.some.inj ((show (Tryz.prog.globals[0]?).map (·.type) = some 90 by kernel_rfl).symm.trans ht)
  obtain ⟨xs, m, _, ex, hcl, hl, hel⟩ := DataW.trod_array Tryz.underlying90 hd
  have c5 : Tryz.prog.cellsOf 9 = 1 := by kernel_rfl
  have hn : Tryz.prog.cellsOf 90 = 4 := by kernel_rfl
  rw [hn] at hcl
  have e3 := (Prod.mk.inj ex).1
  obtain ⟨ty, fz, hh⟩ := var_block hv hg
  have key : ∀ r (l : List UInt8), r < 4 → (xs.map (·.1))[r]? = some (DataW.lit (.string l)) → W.cell? ⟨0, r, none⟩ = some (.string ⟨l.toArray⟩) := by
    intro r l hr he
    have hE := hel r hr
    rw [c5, Nat.mul_one, List.getElem?_eq_getElem (by omega)] at hE
    obtain ⟨s, e1, e2, _⟩ := DataW.trod_string Tryz.underlying9 hE
    have h4 : (xs.map (·.1))[r]? = some (xs[r]'(by omega)).1 := by rw [List.getElem?_map, List.getElem?_eq_getElem (by omega)]; rfl
    rw [h4, e2] at he
    obtain rfl : s.data.toList = l := by simpa using he
    have h5 : cs.toList[r]? = some (.string s) := by
      have : (List.take 1 (List.drop r cs.toList))[0]? = some (Value.string s) := by rw [e1]; rfl
      simpa [List.getElem?_take, List.getElem?_drop] using this
    have h6 : cs[r]? = some (.string s) := by rw [← Array.getElem?_toList]; exact h5
    simp only [World.cell?, hh]
    simpa using h6
  have e4 := (DataW.agg.inj e3).symm
  refine ⟨key 1 _ (by omega) (by rw [e4]; rfl), key 2 _ (by omega) (by rw [e4]; rfl), key 3 _ (by omega) (by rw [e4]; rfl)⟩
theorem pow_size {W : World} (h : PowAt W) : 1 < W.heap.size := by
  obtain ⟨ty, fz, hh⟩ := var_block (g := 1) h (by kernel_rfl)
  exact lt_of_heap hh
end Go.Proofs.YtdadfgaomighnaaGreatDoor
