/-
  PoolNil: the runs of all ways.
-/
import Derived.Test.YtbmedcghekgjnaaGreatDoorPoolRun
namespace Go.Proofs.YtbmedcghekgjnaaGreatDoor
open Go Ev
theorem pool_run_true0 : poolRun true 0 = true := by kernel_rfl
theorem pool_run_true1 : poolRun true 1 = true := by kernel_rfl
theorem pool_run_true2 : poolRun true 2 = true := by kernel_rfl
theorem pool_run_true3 : poolRun true 3 = true := by kernel_rfl
theorem pool_run_true4 : poolRun true 4 = true := by kernel_rfl
theorem pool_run_true5 : poolRun true 5 = true := by kernel_rfl
theorem pool_run_true6 : poolRun true 6 = true := by kernel_rfl
end Go.Proofs.YtbmedcghekgjnaaGreatDoor
