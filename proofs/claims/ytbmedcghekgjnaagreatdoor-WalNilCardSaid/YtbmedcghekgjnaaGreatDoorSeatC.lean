/-
  Frames that are given.
-/
import Derived.Test.YtbmedcghekgjnaaGreatDoorSeatB
namespace Go.Proofs.YtbmedcghekgjnaaGreatDoor
open Go Go.RowKit Ev
theorem frame_ok {ρ : Ren} {env : Nat → Value} {l l' : List Value} (h : VRs ρ env l l') (hn : Nat.ble l.length 4000 = true) : FrOK ρ env (TT.ofList 0 l .leaf) ⟨l'⟩ := by
  have := enter_fr h (n := 0) (Nat.le_of_ble_eq_true hn)
  simpa using this
end Go.Proofs.YtbmedcghekgjnaaGreatDoor
