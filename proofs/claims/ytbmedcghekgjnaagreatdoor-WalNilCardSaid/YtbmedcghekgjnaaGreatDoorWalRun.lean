/-
  WalNil: what is run in the evaluator: definitions.
-/
import Derived.Test.YtbmedcghekgjnaaGreatDoorSnapB
namespace Go.Proofs.YtbmedcghekgjnaaGreatDoor
open Go Ev

/-- Code without its first statements. -/
noncomputable def behind : Nat → Code → Code
  | n + 1, .seq _ b => behind n b
  | _, c => c
noncomputable def bodyOf (fn : Func) : Code := match fn.body with
  | some c => c
  | none => .skip
noncomputable def X09 : List (Nat × XK) := (8, .known (.bool true) base0) :: X0
/-- A record's cells: two of them are bools, the others symbols. -/
def recCells (a b : Bool) : List Value := [.float .f32 0, .float .f32 1, .float .f32 2, .float .f32 3, .float .f32 4, .bool a, .float .f32 6, .bool b, .float .f32 8, .float .f32 9, .float .f32 10, .float .f32 11, .float .f32 12, .float .f32 13, .float .f32 14, .float .f32 15]
noncomputable def walH (a b : Bool) : List (Nat × AObj) := (4, .cells (recCells a b) 30 false) :: base0
/-- The frame behind the guard. -/
noncomputable def walFrame (a b : Bool) : List Value :=
  [.agg ⟨recCells a b⟩, .float .f32 16, .pointer (some ⟨4, 0, none⟩), undefV, .bool false, undefV, undefV, undefV, undefV, undefV, undefV, undefV, undefV, undefV, undefV, undefV, undefV, undefV, .agg ⟨recCells a b⟩, .bool false] ++ repN 128 undefV
noncomputable def walRest : Code := behind 2 (bodyOf Tryz.f3)
noncomputable def walRun (a b : Bool) : Bool := allEnd T0 (evCall T0 4 F0 X09 1000 100) Tryz.f3 okTrue (exec T0 none 148 (evCall T0 4 F0 X09 1000 100) 1000 walRest ⟨TT.ofList 0 (walFrame a b) .leaf, [], ⟨baseH (walH a b) .leaf, 5, []⟩⟩)
end Go.Proofs.YtbmedcghekgjnaaGreatDoor
