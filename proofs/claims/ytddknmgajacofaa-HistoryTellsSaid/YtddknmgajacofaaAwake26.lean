/-
  History: the document's example gives true.
-/
import Derived.Test.YtddknmgajacofaaSeatN
namespace Go.Proofs.Ytddknmgajacofaa
open Go Go.RowKit Ev
theorem awake26_run : allTrue (evCall T0 0 F0 [] 1000 100 (.fn 6 []) H0) = true := by kernel_rfl
theorem awake_ok (w : World) : Calls Try.prog 6 #[] w fun e w' => e = .returned (.bool true) ∧ Upd Nowhere w w' :=
  calls_allTrue (f := 6) (fn := Try.f6) (c := (Try.f6).body.getD .skip) (by kernel_rfl) (by kernel_rfl) awake26_run w
end Go.Proofs.Ytddknmgajacofaa
