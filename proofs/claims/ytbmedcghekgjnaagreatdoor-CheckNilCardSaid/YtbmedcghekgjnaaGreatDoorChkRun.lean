/-
  CheckNil: what is run in the evaluator: definitions.
-/
import Derived.Test.YtbmedcghekgjnaaGreatDoorSeatB
namespace Go.Proofs.YtbmedcghekgjnaaGreatDoor
open Go Ev

/-- Code without its first statements. -/
noncomputable def behind : Nat → Code → Code
  | n + 1, .seq _ b => behind n b
  | _, c => c
noncomputable def bodyOf (fn : Func) : Code := match fn.body with
  | some c => c
  | none => .skip
noncomputable def X17 : List (Nat × XK) := (36, .known (.bool true) base0) :: X0
/-- The frame behind the guard: the past, the fuse, and what the guard left. -/
noncomputable def chkFrame (fuse : Int) : List Value :=
  [.float .f32 0, .int .i64 fuse, undefV, undefV, .bool false, undefV, undefV, undefV, undefV, undefV, undefV, undefV, undefV, undefV, undefV, .float .f32 0, .float .f32 1, .bool false, .bool false, .int .i64 fuse, .bool false, .bool false, .bool false, .int .i64 fuse, .bool false, .bool false] ++ repN 65 undefV
noncomputable def chkRest : Code := behind 2 (bodyOf Tryz.f6)
noncomputable def chkRun (fuse : Int) : Bool := allEnd T0 (evCall T0 4 F0 X17 1000 100) Tryz.f6 okTrue (exec T0 none 91 (evCall T0 4 F0 X17 1000 100) 1000 chkRest ⟨TT.ofList 0 (chkFrame fuse) .leaf, [], H0⟩)
end Go.Proofs.YtbmedcghekgjnaaGreatDoor
