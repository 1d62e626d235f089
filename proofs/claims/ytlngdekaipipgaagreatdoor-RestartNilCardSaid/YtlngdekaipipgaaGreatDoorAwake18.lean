/-
  The run of awake (layer 18).
-/
import Derived.Test.YtlngdekaipipgaaGreatDoorSnap18D
namespace Go.Proofs.YtlngdekaipipgaaGreatDoor
open Go Ev
theorem awake18_run : oneTrue base0 (evCall T0 8 F0 sn18_X 1000 100 (.fn 9 []) H0) = true := by kernel_rfl
end Go.Proofs.YtlngdekaipipgaaGreatDoor
