/-
  The run of awake (layer 9).
-/
import Derived.Test.YtljmmkjdlcfkpaaGreatDoorSnapB
namespace Go.Proofs.YtljmmkjdlcfkpaaGreatDoor
open Go Ev
theorem awake09_run : oneTrue base0 (evCall T0 1 F0 X0 1000 100 (.fn 8 []) H0) = true := by kernel_rfl
theorem awake09_ok {w : World} (hw : HalfAt w) : Calls Tryz.prog 8 #[] w fun e w' => e = .returned (.bool true) ∧ Go.RowKit.Below w.heap.size w w' :=
  calls_true (fun _ => ext0) (fn := Tryz.f8) (by kernel_rfl) rfl awake09_run hw
end Go.Proofs.YtljmmkjdlcfkpaaGreatDoor
