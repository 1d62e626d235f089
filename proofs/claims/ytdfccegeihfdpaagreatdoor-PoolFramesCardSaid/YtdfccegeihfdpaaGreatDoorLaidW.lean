/-
  The package's table, as the row lays it.
-/
import Derived.Test.YtdfccegeihfdpaaGreatDoorWm1
import Derived.Test.YtdfccegeihfdpaaGreatDoorPost
import Derived.Test.YtdfccegeihfdpaaGreatDoorTie
import Derived.Test.YtdfccegeihfdpaaGreatDoorCards
import Derived.LaidMore
import Derived.Lay
import Derived.SevenTiedAt
import Derived.Stop.Joined
namespace Go.Proofs.YtdfccegeihfdpaaGreatDoor
open Go Go.ChangeShapes Go.WideShapes Go.ChangeAt Go.RowKit

abbrev laid0 : List (String × DataW Unit) := [("troth/crc.half", Rows.laid_troth_crc_half)]
def halfZ : List Int := [0, 498536548, 997073096, 651767980, 1994146192, 1802195444, 1303535960, 1342533948, 3988292384, 4027552580, 3604390888, 3412177804, 2607071920, 2262029012, 2685067896, 3183342108]
theorem half_of_laid {W : World} (h : laidMetH Tryz.prog laid0 W) : HalfW W := by
  rw [MakeChecks.laidMetH_plain _ _ _ (by kernel_rfl)] at h
  obtain ⟨ps, ⟨g, t, cs, fuel, p, q, hg, ht, hv, hd, _, _⟩, _, _⟩ := h
  obtain rfl := Option.some.inj ((show Tryz.prog.globalNamed "troth/crc.half" = some 0 by kernel_rfl).symm.trans hg)
  obtain rfl := Option.some.inj ((show (Tryz.prog.globals[0]?).map (·.type) = some 346 by kernel_rfl).symm.trans ht)
  obtain ⟨xs, m, _, ex, hcl, hl, hel⟩ := DataW.trod_array Tryz.underlying346 hd
  have c5 : Tryz.prog.cellsOf 297 = 1 := by kernel_rfl
  have e3 : (xs.map (·.1)) = halfZ.map fun n => .lit (.int .u32 n) := (DataW.agg.inj (Prod.mk.inj ex).1).symm
  have hn : Tryz.prog.cellsOf 346 = 16 := by kernel_rfl
  have hz16 : halfZ.length = 16 := rfl
  have hLZ : halfV = halfZ.map (Value.int .u32) := rfl
  rw [hn] at hcl
  have hcs : cs.toList = halfV := by
    apply List.ext_getElem?
    intro r
    rw [hLZ, List.getElem?_map]
    by_cases hr : r < 16
    · have hE := hel r hr
      rw [c5, Nat.mul_one, List.getElem?_eq_getElem (by omega)] at hE
      obtain ⟨z, e1, e2, _⟩ := DataW.trod_int Tryz.underlying297 hE
      have e4 : (xs.map (·.1))[r]? = (halfZ.map fun n => (DataW.lit (.int .u32 n) : DataW Unit))[r]? := by rw [e3]
      rw [List.getElem?_map, List.getElem?_map, List.getElem?_eq_getElem (by omega : r < xs.length), List.getElem?_eq_getElem (by omega : r < halfZ.length), e2] at e4
      simp only [Option.map_some, Option.some.injEq, DataW.lit.injEq, Lit.int.injEq, true_and] at e4
      have h0 : ((cs.toList.drop r).take 1)[0]? = some (.int .u32 z) := by rw [e1]; rfl
      rw [List.getElem?_eq_getElem (by omega : r < halfZ.length), ← e4]
      simpa using h0
    · rw [List.getElem?_eq_none (by omega), List.getElem?_eq_none (by omega)]
      rfl
  simp only [World.var?, hg, Option.bind_some] at hv
  split at hv
  · rename_i cs' ty fz hh
    simp only [Option.some.injEq] at hv
    subst hv
    exact ⟨ty, fz, by rw [hh, ← hcs]⟩
  · cases hv
end Go.Proofs.YtdfccegeihfdpaaGreatDoor
