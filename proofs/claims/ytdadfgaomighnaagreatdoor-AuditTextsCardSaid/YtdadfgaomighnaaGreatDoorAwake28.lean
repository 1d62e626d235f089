/-
  The run of awake (layer 28).
-/
import Derived.Test.YtdadfgaomighnaaGreatDoorSnap28A
namespace Go.Proofs.YtdadfgaomighnaaGreatDoor
open Go Ev
theorem awake28_run : oneTrue base0 (evCall T0 8 F0 sn28_X 1000 100 (.fn 4 []) H0) = true := by kernel_rfl
end Go.Proofs.YtdadfgaomighnaaGreatDoor
