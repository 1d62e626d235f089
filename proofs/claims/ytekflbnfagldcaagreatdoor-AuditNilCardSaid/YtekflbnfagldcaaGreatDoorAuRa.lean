/-
  AuditNil: the runs of all ways.
-/
import Derived.Test.YtekflbnfagldcaaGreatDoorAuJ
namespace Go.Proofs.YtekflbnfagldcaaGreatDoor
open Go Ev
theorem au_run0 : auRun 0 = true := by kernel_rfl
theorem au_run1 : auRun 1 = true := by kernel_rfl
theorem au_run2 : auRun 2 = true := by kernel_rfl
theorem au_run3 : auRun 3 = true := by kernel_rfl
theorem au_run4 : auRun 4 = true := by kernel_rfl
theorem au_run5 : auRun 5 = true := by kernel_rfl
theorem au_runL : auRunL = true := by kernel_rfl
end Go.Proofs.YtekflbnfagldcaaGreatDoor
