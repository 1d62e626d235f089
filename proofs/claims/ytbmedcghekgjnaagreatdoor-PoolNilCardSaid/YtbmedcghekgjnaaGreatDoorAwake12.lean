/-
  The run of awake (layer 12).
-/
import Derived.Test.YtbmedcghekgjnaaGreatDoorSnapB
namespace Go.Proofs.YtbmedcghekgjnaaGreatDoor
open Go Ev
theorem awake12_run : oneTrue base0 (evCall T0 4 F0 X0 1000 100 (.fn 35 []) H0) = true := by kernel_rfl
end Go.Proofs.YtbmedcghekgjnaaGreatDoor
