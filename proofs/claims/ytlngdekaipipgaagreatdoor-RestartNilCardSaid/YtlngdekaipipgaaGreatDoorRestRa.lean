/-
  RestartNil: the runs of all ways.
-/
import Derived.Test.YtlngdekaipipgaaGreatDoorRestRun
namespace Go.Proofs.YtlngdekaipipgaaGreatDoor
open Go Ev
theorem rest_run0 : restRun 0 = true := by kernel_rfl
theorem rest_run1 : restRun 1 = true := by kernel_rfl
theorem rest_run2 : restRun 2 = true := by kernel_rfl
theorem rest_run3 : restRun 3 = true := by kernel_rfl
theorem rest_run4 : restRun 4 = true := by kernel_rfl
theorem rest_run5 : restRun 5 = true := by kernel_rfl
theorem rest_run6 : restRun 6 = true := by kernel_rfl
end Go.Proofs.YtlngdekaipipgaaGreatDoor
