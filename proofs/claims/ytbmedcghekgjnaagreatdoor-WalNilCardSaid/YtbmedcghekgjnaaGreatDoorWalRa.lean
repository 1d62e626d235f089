/-
  WalNil: the runs.
-/
import Derived.Test.YtbmedcghekgjnaaGreatDoorWalRun
namespace Go.Proofs.YtbmedcghekgjnaaGreatDoor
open Go Ev
theorem wal_run_ff : walRun false false = true := by kernel_rfl
theorem wal_run_ft : walRun false true = true := by kernel_rfl
theorem wal_run_tf : walRun true false = true := by kernel_rfl
theorem wal_run_tt : walRun true true = true := by kernel_rfl
end Go.Proofs.YtbmedcghekgjnaaGreatDoor
