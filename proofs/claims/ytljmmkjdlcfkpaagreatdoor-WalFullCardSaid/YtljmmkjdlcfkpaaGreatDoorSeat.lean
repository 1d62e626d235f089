/-
  The seat's program in the evaluator: tables.
-/
import Derived.Test.YtljmmkjdlcfkpaaGreatDoorEvM5
import Derived.Test.YtljmmkjdlcfkpaaGreatDoorChecked
namespace Go.Proofs.YtljmmkjdlcfkpaaGreatDoor
open Go Ev

noncomputable def idsFrom : Nat → Nat → List Nat
  | _, 0 => []
  | i, n + 1 => i :: idsFrom (i + 1) n
/-- The functions and types that are looked at. -/
noncomputable def fnIds : List Nat := (idsFrom 3 196).filter fun i => !hasN i []
noncomputable def tyIds : List Nat := (idsFrom 0 273).filter fun i => !hasN i [13, 14, 18, 19, 257, 258, 260, 261, 268, 269]
noncomputable def T0 : TT TypeInfo := tabOf Tryz.prog.types.toList tyIds .leaf
noncomputable def F0 : TT Func := tabOf Tryz.prog.funcs.toList fnIds .leaf
noncomputable def halfL : List Value := [.int .u32 0, .int .u32 498536548, .int .u32 997073096, .int .u32 651767980, .int .u32 1994146192, .int .u32 1802195444, .int .u32 1303535960, .int .u32 1342533948, .int .u32 3988292384, .int .u32 4027552580, .int .u32 3604390888, .int .u32 3412177804, .int .u32 2607071920, .int .u32 2262029012, .int .u32 2685067896, .int .u32 3183342108]
noncomputable def base0 : List (Nat × AObj) := [(0, .fixed halfL)]
noncomputable def H0 : HS := ⟨baseH base0 .leaf, 1, []⟩
theorem fns0 : Fns Tryz.prog 1 F0 := fns_ok (by kernel_rfl)
theorem tys0 : tysB Tryz.prog Tryz.prog.types.toList tyIds = true := by kernel_rfl
theorem mix0 : Tryz.prog.follows .mixedOrders = true := by kernel_rfl

/-- Is there one outcome, true, with the package's tables as they were? -/
noncomputable def oneTrue (base : List (Nat × AObj)) : Option (List (Value × HS)) → Bool
  | some [(.bool true, H)] => baseOk H base
  | _ => false
theorem oneTrue_some {base : List (Nat × AObj)} {o : Option (List (Value × HS))} (h : oneTrue base o = true) : ∃ H, o = some [(.bool true, H)] ∧ baseOk H base = true := by
  unfold oneTrue at h
  split at h
  · exact ⟨_, rfl, h⟩
  · cases h
end Go.Proofs.YtljmmkjdlcfkpaaGreatDoor
