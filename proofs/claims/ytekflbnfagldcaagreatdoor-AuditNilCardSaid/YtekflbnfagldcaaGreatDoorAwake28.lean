/-
  The run of awake (layer 28).
-/
import Derived.Test.YtekflbnfagldcaaGreatDoorSnap28A
namespace Go.Proofs.YtekflbnfagldcaaGreatDoor
open Go Ev
theorem awake28_run : oneTrue base0 (evCall T0 4 F0 sn28_X 1000 100 (.fn 7 []) H0) = true := by kernel_rfl
end Go.Proofs.YtekflbnfagldcaaGreatDoor
