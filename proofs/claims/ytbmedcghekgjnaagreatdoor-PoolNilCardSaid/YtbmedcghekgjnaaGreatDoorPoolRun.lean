/-
  PoolNil: what is run in the evaluator: definitions.
-/
import Derived.Test.YtbmedcghekgjnaaGreatDoorSnapB
namespace Go.Proofs.YtbmedcghekgjnaaGreatDoor
open Go Ev

noncomputable def X12 : List (Nat × XK) := (35, .known (.bool true) base0) :: X0
/-- A heap with the table, and what is known of symbols. -/
noncomputable def Hf (l : List (Nat × Nat × Int × Bool)) : HS := ⟨baseH ((3, .facts l) :: base0) .leaf, 4, []⟩
/-- The tests that are not met, one after the other: a test's number, its contrary's, the symbol, the bound. -/
def poolTests : List (Nat × Nat × Nat × Int) := [(1, 4, 0, 1), (3, 2, 0, 64), (1, 4, 1, 1), (3, 2, 1, 64), (1, 4, 2, 0), (3, 2, 2, 4096)]
/-- What is known where the first tests are not met, and the next one is. -/
def poolFacts : Nat → List (Nat × Nat × Nat × Int) → List (Nat × Nat × Int × Bool)
  | _, [] => []
  | 0, (c, d, i, n) :: _ => [(c, i, n, true), (d, i, n, false)]
  | k + 1, (c, d, i, n) :: l => (c, i, n, false) :: (d, i, n, true) :: poolFacts k l
def poolArgs (b : Bool) : List Value := [.float .f32 0, .float .f32 1, .float .f32 2, .float .f32 3, .float .f32 4, .agg ⟨[.bool b, .float .f32 5]⟩]
noncomputable def allTrue : Option (List (Value × HS)) → Bool
  | some l => l.all okTrue
  | none => false
noncomputable def poolRun (b : Bool) (k : Nat) : Bool := allTrue (evCall T0 4 F0 X12 1000 100 (.fn 4 (poolArgs b)) (Hf (poolFacts k poolTests)))
end Go.Proofs.YtbmedcghekgjnaaGreatDoor
