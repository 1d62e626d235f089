/-
  CheckNil: the runs of some fuses.
-/
import Derived.Test.YtbmedcghekgjnaaGreatDoorChkRun
namespace Go.Proofs.YtbmedcghekgjnaaGreatDoor
open Go Ev
theorem chk_run0 : chkRun 0 = true := by kernel_rfl
theorem chk_run1 : chkRun 1 = true := by kernel_rfl
theorem chk_run2 : chkRun 2 = true := by kernel_rfl
theorem chk_run3 : chkRun 3 = true := by kernel_rfl
theorem chk_run4 : chkRun 4 = true := by kernel_rfl
theorem chk_run5 : chkRun 5 = true := by kernel_rfl
end Go.Proofs.YtbmedcghekgjnaaGreatDoor
