/-
  The run of awake (layer 17).
-/
import Derived.Test.YtlngdekaipipgaaGreatDoorSnap17A
namespace Go.Proofs.YtlngdekaipipgaaGreatDoor
open Go Ev
theorem awake17_run : oneTrue base0 (evCall T0 8 F0 sn17_X 1000 100 (.fn 15 []) H0) = true := by kernel_rfl
theorem awake17_ok {w : World} (hw : HalfAt w) : Calls Tryz.prog 15 #[] w fun e w' => e = .returned (.bool true) ∧ Go.RowKit.Below w.heap.size w w' :=
  calls_true (fun h => sn17_X_ok h) (fn := Tryz.f15) (by kernel_rfl) rfl awake17_run hw
end Go.Proofs.YtlngdekaipipgaaGreatDoor
