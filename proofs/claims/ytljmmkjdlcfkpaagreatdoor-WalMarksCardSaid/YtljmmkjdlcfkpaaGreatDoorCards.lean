/-
  DERIVED. GIVEN WITH THE SEED: THE CARDS: each row of YtljmmkjdlcfkpaaGreatDoorRows.lean that lists a variable, with what it lists TIED to the program's text (the seventh form; the later family's looks); each row that meets fmt, with fmt's text TOLD by the authors' own Lean function (tested against real Go, not proved from fmt's source: count such statements apart). THE CARD IS WHAT COUNTS. Prove the row's statement (the work); the ties are given (YtljmmkjdlcfkpaaGreatDoorTie.lean); close each card by the builder's one call (the guide's Derived/Test/ToyasCard.lean, 'card_holds'). Laid BY PROGRAM, IN A SANDBOX (cutbox-door.mjs). By AI agents, Wed Nov 11 2026. No macro, syntax, notation, axiom, sorry.
-/
import Derived.Test.YtljmmkjdlcfkpaaGreatDoorRows
import GoSem.ClaimSeven
namespace Go.Proofs.YtljmmkjdlcfkpaaGreatDoor
namespace Rows

/-- THE TIED CARD OF 'trothlaw09.WalFull'. -/
def walFullCard : Claim7 := { stood := { row := walFullRow, standIns := [], harness := (true, "dbb0b9aaa4b6279b9f2ccfef0d48baf33e219118686ef7f6c53846bcf3f420b5"), looks := true }, kinds := [], alts := [], laidByText := true, laidKinds := [.data], laidTests := true, laidLooks := .later }
def WalFullCardSaid : Prop := Claim7.holds Tryz.pinned (.plain (OpenSpec.ofChange walFullSpec)) walFullCard

/-- THE TIED CARD OF 'trothlaw09.WalOwn'. -/
def walOwnCard : Claim7 := { stood := { row := walOwnRow, standIns := [], harness := (true, "dbb0b9aaa4b6279b9f2ccfef0d48baf33e219118686ef7f6c53846bcf3f420b5"), looks := true }, kinds := [], alts := [], laidByText := true, laidKinds := [.data], laidTests := true, laidLooks := .later }
def WalOwnCardSaid : Prop := Claim7.holds Tryz.pinned (.plain (OpenSpec.ofChange walOwnSpec)) walOwnCard

/-- THE TIED CARD OF 'trothlaw09.WalCrashes'. -/
def walCrashesCard : Claim7 := { stood := { row := walCrashesRow, standIns := [], harness := (true, "dbb0b9aaa4b6279b9f2ccfef0d48baf33e219118686ef7f6c53846bcf3f420b5"), looks := true }, kinds := [], alts := [], laidByText := true, laidKinds := [.data], laidTests := true, laidLooks := .later }
def WalCrashesCardSaid : Prop := Claim7.holds Tryz.pinned (.plain (OpenSpec.ofChange walCrashesSpec)) walCrashesCard

/-- THE TIED CARD OF 'trothlaw09.WalMarks'. -/
def walMarksCard : Claim7 := { stood := { row := walMarksRow, standIns := [], harness := (true, "dbb0b9aaa4b6279b9f2ccfef0d48baf33e219118686ef7f6c53846bcf3f420b5"), looks := true }, kinds := [], alts := [], laidByText := true, laidKinds := [.data], laidTests := true, laidLooks := .later }
def WalMarksCardSaid : Prop := Claim7.holds Tryz.pinned (.plain (OpenSpec.ofChange walMarksSpec)) walMarksCard

/-- THE TIED CARD OF 'trothlaw09.WalPlays'. -/
def walPlaysCard : Claim7 := { stood := { row := walPlaysRow, standIns := [], harness := (true, "dbb0b9aaa4b6279b9f2ccfef0d48baf33e219118686ef7f6c53846bcf3f420b5"), looks := true }, kinds := [], alts := [], laidByText := true, laidKinds := [.data], laidTests := true, laidLooks := .later }
def WalPlaysCardSaid : Prop := Claim7.holds Tryz.pinned (.plain (OpenSpec.ofChange walPlaysSpec)) walPlaysCard

/-- THE SECOND FORM's CARD OF 'trothlaw09.WalFull'. -/
def walFullUptoCard : Claim7 := { stood := { row := walFullUptoRow, standIns := [], harness := (true, "dbb0b9aaa4b6279b9f2ccfef0d48baf33e219118686ef7f6c53846bcf3f420b5"), looks := true }, kinds := [], alts := [], laidByText := true, laidKinds := [.data], laidTests := true, laidLooks := .later }
def WalFullUptoCardSaid : Prop := Claim7.holds Tryz.pinned (.plain (OpenSpec.upto walFullSpec)) walFullUptoCard

/-- THE SECOND FORM's CARD OF 'trothlaw09.WalOwn'. -/
def walOwnUptoCard : Claim7 := { stood := { row := walOwnUptoRow, standIns := [], harness := (true, "dbb0b9aaa4b6279b9f2ccfef0d48baf33e219118686ef7f6c53846bcf3f420b5"), looks := true }, kinds := [], alts := [], laidByText := true, laidKinds := [.data], laidTests := true, laidLooks := .later }
def WalOwnUptoCardSaid : Prop := Claim7.holds Tryz.pinned (.plain (OpenSpec.upto walOwnSpec)) walOwnUptoCard

/-- THE SECOND FORM's CARD OF 'trothlaw09.WalCrashes'. -/
def walCrashesUptoCard : Claim7 := { stood := { row := walCrashesUptoRow, standIns := [], harness := (true, "dbb0b9aaa4b6279b9f2ccfef0d48baf33e219118686ef7f6c53846bcf3f420b5"), looks := true }, kinds := [], alts := [], laidByText := true, laidKinds := [.data], laidTests := true, laidLooks := .later }
def WalCrashesUptoCardSaid : Prop := Claim7.holds Tryz.pinned (.plain (OpenSpec.upto walCrashesSpec)) walCrashesUptoCard

/-- THE SECOND FORM's CARD OF 'trothlaw09.WalMarks'. -/
def walMarksUptoCard : Claim7 := { stood := { row := walMarksUptoRow, standIns := [], harness := (true, "dbb0b9aaa4b6279b9f2ccfef0d48baf33e219118686ef7f6c53846bcf3f420b5"), looks := true }, kinds := [], alts := [], laidByText := true, laidKinds := [.data], laidTests := true, laidLooks := .later }
def WalMarksUptoCardSaid : Prop := Claim7.holds Tryz.pinned (.plain (OpenSpec.upto walMarksSpec)) walMarksUptoCard

/-- THE SECOND FORM's CARD OF 'trothlaw09.WalPlays'. -/
def walPlaysUptoCard : Claim7 := { stood := { row := walPlaysUptoRow, standIns := [], harness := (true, "dbb0b9aaa4b6279b9f2ccfef0d48baf33e219118686ef7f6c53846bcf3f420b5"), looks := true }, kinds := [], alts := [], laidByText := true, laidKinds := [.data], laidTests := true, laidLooks := .later }
def WalPlaysUptoCardSaid : Prop := Claim7.holds Tryz.pinned (.plain (OpenSpec.upto walPlaysSpec)) walPlaysUptoCard
end Rows
end Go.Proofs.YtljmmkjdlcfkpaaGreatDoor
