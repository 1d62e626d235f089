/-
  CheckNil: the runs of some fuses.
-/
import Derived.Test.YtbmedcghekgjnaaGreatDoorChkRun
namespace Go.Proofs.YtbmedcghekgjnaaGreatDoor
open Go Ev
theorem chk_run6 : chkRun 6 = true := by kernel_rfl
theorem chk_run7 : chkRun 7 = true := by kernel_rfl
theorem chk_run8 : chkRun 8 = true := by kernel_rfl
theorem chk_run9 : chkRun 9 = true := by kernel_rfl
theorem chk_run10 : chkRun 10 = true := by kernel_rfl
end Go.Proofs.YtbmedcghekgjnaaGreatDoor
