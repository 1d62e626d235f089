/-
  RestartNil: what is run in the evaluator: definitions.
-/
import Derived.Test.YtlngdekaipipgaaGreatDoorFacts
namespace Go.Proofs.YtlngdekaipipgaaGreatDoor
open Go Ev

noncomputable def X18 : List (Nat × XK) := (9, .known (.bool true) base0) :: X0
/-- What is known where the first tests are not met, and the next one is; below: a number's least, above: its most. -/
noncomputable def shapeFacts : Nat → List (Nat × Nat × Nat × Int) → List (Nat × Value × Value × Value) → List (Nat × Value × Value × Value)
  | _, [], r => r
  | 0, (c, d, i, n) :: _, _ => [(c, sy i, nu n, .bool true), (d, sy i, nu n, .bool false)]
  | k + 1, (c, d, i, n) :: l, r => (c, sy i, nu n, .bool false) :: (d, sy i, nu n, .bool true) :: shapeFacts k l r
def shapeTests : List (Nat × Nat × Nat × Int) := [(1, 4, 0, 64), (3, 2, 0, 1024), (1, 4, 1, 1), (3, 2, 1, 64), (1, 4, 2, 1), (3, 2, 2, 64)]
/-- Of a right shape: its sums (3: 2 + Log, 4: 2 * Pages, 5: all, 6: one less), and how they stand. -/
noncomputable def sumFacts : List (Nat × Value × Value × Value) :=
  [(7, nu 2, sy 0, sy 3), (9, nu 2, sy 1, sy 4), (7, sy 3, sy 4, sy 5), (8, sy 5, nu 1, sy 6),
   (1, sy 6, nu 1, .bool false), (3, sy 6, nu 4096, .bool false), (1, sy 5, nu 1, .bool false), (3, sy 5, nu 4096, .bool false),
   (1, sy 6, sy 5, .bool true), (1, sy 5, sy 5, .bool false), (1, sy 0, nu 8, .bool false), (1, sy 5, sy 3, .bool false),
   (4, nu 0, sy 5, .bool false), (4, nu 1, sy 5, .bool false)]
noncomputable def restFacts (k : Nat) : List (Nat × Value × Value × Value) := shapeFacts k shapeTests sumFacts
noncomputable def restRun (k : Nat) : Bool := allTrue (evCall T0 8 F0 X18 1000 100 (.fn 3 [.agg ⟨[sy 0, sy 1, sy 2]⟩]) (Hf (restFacts k)))
end Go.Proofs.YtlngdekaipipgaaGreatDoor
