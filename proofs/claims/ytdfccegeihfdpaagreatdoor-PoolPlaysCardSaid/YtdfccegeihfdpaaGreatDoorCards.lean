/-
  DERIVED. GIVEN WITH THE SEED: THE CARDS: each row of YtdfccegeihfdpaaGreatDoorRows.lean that lists a variable, with what it lists TIED to the program's text (the seventh form; the later family's looks); each row that meets fmt, with fmt's text TOLD by the authors' own Lean function (tested against real Go, not proved from fmt's source: count such statements apart). THE CARD IS WHAT COUNTS. Prove the row's statement (the work); the ties are given (YtdfccegeihfdpaaGreatDoorTie.lean); close each card by the builder's one call (the guide's Derived/Test/ToyasCard.lean, 'card_holds'). Laid BY PROGRAM, IN A SANDBOX (cutbox-door.mjs). By AI agents, Wed Nov 11 2026. No macro, syntax, notation, axiom, sorry.
-/
import Derived.Test.YtdfccegeihfdpaaGreatDoorRows
import GoSem.ClaimSeven
namespace Go.Proofs.YtdfccegeihfdpaaGreatDoor
namespace Rows

/-- THE TIED CARD OF 'trothlaw09.WalPlays'. -/
def walPlaysCard : Claim7 := { stood := { row := walPlaysRow, standIns := [], harness := (true, "2488b91465a5dcd83e2b1a07aeec636176e80929914c95b785f3899025dc3ea6"), looks := true }, kinds := [], alts := [], laidByText := true, laidKinds := [.data], laidTests := true, laidLooks := .later }
def WalPlaysCardSaid : Prop := Claim7.holds Tryz.pinned (.plain (OpenSpec.ofChange walPlaysSpec)) walPlaysCard

/-- THE TIED CARD OF 'trothlaw12.PoolKeeps'. -/
def poolKeepsCard : Claim7 := { stood := { row := poolKeepsRow, standIns := [], harness := (true, "2488b91465a5dcd83e2b1a07aeec636176e80929914c95b785f3899025dc3ea6"), looks := true }, kinds := [], alts := [], laidByText := true, laidKinds := [.data], laidTests := true, laidLooks := .later }
def PoolKeepsCardSaid : Prop := Claim7.holds Tryz.pinned (.plain (OpenSpec.ofChange poolKeepsSpec)) poolKeepsCard

/-- THE TIED CARD OF 'trothlaw12.PoolFrames'. -/
def poolFramesCard : Claim7 := { stood := { row := poolFramesRow, standIns := [], harness := (true, "2488b91465a5dcd83e2b1a07aeec636176e80929914c95b785f3899025dc3ea6"), looks := true }, kinds := [], alts := [], laidByText := true, laidKinds := [.data], laidTests := true, laidLooks := .later }
def PoolFramesCardSaid : Prop := Claim7.holds Tryz.pinned (.plain (OpenSpec.ofChange poolFramesSpec)) poolFramesCard

/-- THE TIED CARD OF 'trothlaw12.PoolAhead'. -/
def poolAheadCard : Claim7 := { stood := { row := poolAheadRow, standIns := [], harness := (true, "2488b91465a5dcd83e2b1a07aeec636176e80929914c95b785f3899025dc3ea6"), looks := true }, kinds := [], alts := [], laidByText := true, laidKinds := [.data], laidTests := true, laidLooks := .later }
def PoolAheadCardSaid : Prop := Claim7.holds Tryz.pinned (.plain (OpenSpec.ofChange poolAheadSpec)) poolAheadCard

/-- THE TIED CARD OF 'trothlaw12.PoolPlays'. -/
def poolPlaysCard : Claim7 := { stood := { row := poolPlaysRow, standIns := [], harness := (true, "2488b91465a5dcd83e2b1a07aeec636176e80929914c95b785f3899025dc3ea6"), looks := true }, kinds := [], alts := [], laidByText := true, laidKinds := [.data], laidTests := true, laidLooks := .later }
def PoolPlaysCardSaid : Prop := Claim7.holds Tryz.pinned (.plain (OpenSpec.ofChange poolPlaysSpec)) poolPlaysCard

/-- THE TIED CARD OF 'trothlaw12.PoolDown'. -/
def poolDownCard : Claim7 := { stood := { row := poolDownRow, standIns := [], harness := (true, "2488b91465a5dcd83e2b1a07aeec636176e80929914c95b785f3899025dc3ea6"), looks := true }, kinds := [], alts := [], laidByText := true, laidKinds := [.data], laidTests := true, laidLooks := .later }
def PoolDownCardSaid : Prop := Claim7.holds Tryz.pinned (.plain (OpenSpec.ofChange poolDownSpec)) poolDownCard

/-- THE SECOND FORM's CARD OF 'trothlaw09.WalPlays'. -/
def walPlaysUptoCard : Claim7 := { stood := { row := walPlaysUptoRow, standIns := [], harness := (true, "2488b91465a5dcd83e2b1a07aeec636176e80929914c95b785f3899025dc3ea6"), looks := true }, kinds := [], alts := [], laidByText := true, laidKinds := [.data], laidTests := true, laidLooks := .later }
def WalPlaysUptoCardSaid : Prop := Claim7.holds Tryz.pinned (.plain (OpenSpec.upto walPlaysSpec)) walPlaysUptoCard

/-- THE SECOND FORM's CARD OF 'trothlaw12.PoolKeeps'. -/
def poolKeepsUptoCard : Claim7 := { stood := { row := poolKeepsUptoRow, standIns := [], harness := (true, "2488b91465a5dcd83e2b1a07aeec636176e80929914c95b785f3899025dc3ea6"), looks := true }, kinds := [], alts := [], laidByText := true, laidKinds := [.data], laidTests := true, laidLooks := .later }
def PoolKeepsUptoCardSaid : Prop := Claim7.holds Tryz.pinned (.plain (OpenSpec.upto poolKeepsSpec)) poolKeepsUptoCard

/-- THE SECOND FORM's CARD OF 'trothlaw12.PoolFrames'. -/
def poolFramesUptoCard : Claim7 := { stood := { row := poolFramesUptoRow, standIns := [], harness := (true, "2488b91465a5dcd83e2b1a07aeec636176e80929914c95b785f3899025dc3ea6"), looks := true }, kinds := [], alts := [], laidByText := true, laidKinds := [.data], laidTests := true, laidLooks := .later }
def PoolFramesUptoCardSaid : Prop := Claim7.holds Tryz.pinned (.plain (OpenSpec.upto poolFramesSpec)) poolFramesUptoCard

/-- THE SECOND FORM's CARD OF 'trothlaw12.PoolAhead'. -/
def poolAheadUptoCard : Claim7 := { stood := { row := poolAheadUptoRow, standIns := [], harness := (true, "2488b91465a5dcd83e2b1a07aeec636176e80929914c95b785f3899025dc3ea6"), looks := true }, kinds := [], alts := [], laidByText := true, laidKinds := [.data], laidTests := true, laidLooks := .later }
def PoolAheadUptoCardSaid : Prop := Claim7.holds Tryz.pinned (.plain (OpenSpec.upto poolAheadSpec)) poolAheadUptoCard

/-- THE SECOND FORM's CARD OF 'trothlaw12.PoolPlays'. -/
def poolPlaysUptoCard : Claim7 := { stood := { row := poolPlaysUptoRow, standIns := [], harness := (true, "2488b91465a5dcd83e2b1a07aeec636176e80929914c95b785f3899025dc3ea6"), looks := true }, kinds := [], alts := [], laidByText := true, laidKinds := [.data], laidTests := true, laidLooks := .later }
def PoolPlaysUptoCardSaid : Prop := Claim7.holds Tryz.pinned (.plain (OpenSpec.upto poolPlaysSpec)) poolPlaysUptoCard

/-- THE SECOND FORM's CARD OF 'trothlaw12.PoolDown'. -/
def poolDownUptoCard : Claim7 := { stood := { row := poolDownUptoRow, standIns := [], harness := (true, "2488b91465a5dcd83e2b1a07aeec636176e80929914c95b785f3899025dc3ea6"), looks := true }, kinds := [], alts := [], laidByText := true, laidKinds := [.data], laidTests := true, laidLooks := .later }
def PoolDownUptoCardSaid : Prop := Claim7.holds Tryz.pinned (.plain (OpenSpec.upto poolDownSpec)) poolDownUptoCard
end Rows
end Go.Proofs.YtdfccegeihfdpaaGreatDoor
