/-
  PoolNil: the runs of all ways.
-/
import Derived.Test.YtbmedcghekgjnaaGreatDoorPoolRun
namespace Go.Proofs.YtbmedcghekgjnaaGreatDoor
open Go Ev
theorem pool_run_false0 : poolRun false 0 = true := by kernel_rfl
theorem pool_run_false1 : poolRun false 1 = true := by kernel_rfl
theorem pool_run_false2 : poolRun false 2 = true := by kernel_rfl
theorem pool_run_false3 : poolRun false 3 = true := by kernel_rfl
theorem pool_run_false4 : poolRun false 4 = true := by kernel_rfl
theorem pool_run_false5 : poolRun false 5 = true := by kernel_rfl
theorem pool_run_false6 : poolRun false 6 = true := by kernel_rfl
end Go.Proofs.YtbmedcghekgjnaaGreatDoor
