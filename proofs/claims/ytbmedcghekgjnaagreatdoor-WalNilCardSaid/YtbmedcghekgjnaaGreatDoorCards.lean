/-
  DERIVED. GIVEN WITH THE SEED: THE CARDS: each row of YtbmedcghekgjnaaGreatDoorRows.lean that lists a variable, with what it lists TIED to the program's text (the seventh form; the later family's looks); each row that meets fmt, with fmt's text TOLD by the authors' own Lean function (tested against real Go, not proved from fmt's source: count such statements apart). THE CARD IS WHAT COUNTS. Prove the row's statement (the work); the ties are given (YtbmedcghekgjnaaGreatDoorTie.lean); close each card by the builder's one call (the guide's Derived/Test/ToyasCard.lean, 'card_holds'). Laid BY PROGRAM, IN A SANDBOX (cutbox-door.mjs). By AI agents, Wed Nov 11 2026. No macro, syntax, notation, axiom, sorry.
-/
import Derived.Test.YtbmedcghekgjnaaGreatDoorRows
import GoSem.ClaimSeven
namespace Go.Proofs.YtbmedcghekgjnaaGreatDoor
namespace Rows

/-- THE TIED CARD OF 'trothlaw09.WalNil'. -/
def walNilCard : Claim7 := { stood := { row := walNilRow, standIns := [], harness := (true, "a62be78f3ae9c410b6bbf7d7a8b47f3892bb3f39111fa2291f45448f98958876"), looks := false }, kinds := [], alts := [], laidByText := true, laidKinds := [.data], laidTests := true, laidLooks := .later }
def WalNilCardSaid : Prop := Claim7.holds Tryz.pinned (.plain (OpenSpec.ofChange walNilSpec)) walNilCard

/-- THE TIED CARD OF 'trothlaw12.PoolNil'. -/
def poolNilCard : Claim7 := { stood := { row := poolNilRow, standIns := [], harness := (true, "a62be78f3ae9c410b6bbf7d7a8b47f3892bb3f39111fa2291f45448f98958876"), looks := false }, kinds := [], alts := [], laidByText := true, laidKinds := [.data], laidTests := true, laidLooks := .later }
def PoolNilCardSaid : Prop := Claim7.holds Tryz.pinned (.plain (OpenSpec.ofChange poolNilSpec)) poolNilCard

/-- THE TIED CARD OF 'trothlaw17.CheckKeeps'. -/
def checkKeepsCard : Claim7 := { stood := { row := checkKeepsRow, standIns := [], harness := (true, "a62be78f3ae9c410b6bbf7d7a8b47f3892bb3f39111fa2291f45448f98958876"), looks := false }, kinds := [], alts := [], laidByText := true, laidKinds := [.data], laidTests := true, laidLooks := .later }
def CheckKeepsCardSaid : Prop := Claim7.holds Tryz.pinned (.plain (OpenSpec.ofChange checkKeepsSpec)) checkKeepsCard

/-- THE TIED CARD OF 'trothlaw17.CheckNil'. -/
def checkNilCard : Claim7 := { stood := { row := checkNilRow, standIns := [], harness := (true, "a62be78f3ae9c410b6bbf7d7a8b47f3892bb3f39111fa2291f45448f98958876"), looks := false }, kinds := [], alts := [], laidByText := true, laidKinds := [.data], laidTests := true, laidLooks := .later }
def CheckNilCardSaid : Prop := Claim7.holds Tryz.pinned (.plain (OpenSpec.ofChange checkNilSpec)) checkNilCard

/-- THE SECOND FORM's CARD OF 'trothlaw09.WalNil'. -/
def walNilUptoCard : Claim7 := { stood := { row := walNilUptoRow, standIns := [], harness := (true, "a62be78f3ae9c410b6bbf7d7a8b47f3892bb3f39111fa2291f45448f98958876"), looks := false }, kinds := [], alts := [], laidByText := true, laidKinds := [.data], laidTests := true, laidLooks := .later }
def WalNilUptoCardSaid : Prop := Claim7.holds Tryz.pinned (.plain (OpenSpec.upto walNilSpec)) walNilUptoCard

/-- THE SECOND FORM's CARD OF 'trothlaw12.PoolNil'. -/
def poolNilUptoCard : Claim7 := { stood := { row := poolNilUptoRow, standIns := [], harness := (true, "a62be78f3ae9c410b6bbf7d7a8b47f3892bb3f39111fa2291f45448f98958876"), looks := false }, kinds := [], alts := [], laidByText := true, laidKinds := [.data], laidTests := true, laidLooks := .later }
def PoolNilUptoCardSaid : Prop := Claim7.holds Tryz.pinned (.plain (OpenSpec.upto poolNilSpec)) poolNilUptoCard

/-- THE SECOND FORM's CARD OF 'trothlaw17.CheckKeeps'. -/
def checkKeepsUptoCard : Claim7 := { stood := { row := checkKeepsUptoRow, standIns := [], harness := (true, "a62be78f3ae9c410b6bbf7d7a8b47f3892bb3f39111fa2291f45448f98958876"), looks := false }, kinds := [], alts := [], laidByText := true, laidKinds := [.data], laidTests := true, laidLooks := .later }
def CheckKeepsUptoCardSaid : Prop := Claim7.holds Tryz.pinned (.plain (OpenSpec.upto checkKeepsSpec)) checkKeepsUptoCard

/-- THE SECOND FORM's CARD OF 'trothlaw17.CheckNil'. -/
def checkNilUptoCard : Claim7 := { stood := { row := checkNilUptoRow, standIns := [], harness := (true, "a62be78f3ae9c410b6bbf7d7a8b47f3892bb3f39111fa2291f45448f98958876"), looks := false }, kinds := [], alts := [], laidByText := true, laidKinds := [.data], laidTests := true, laidLooks := .later }
def CheckNilUptoCardSaid : Prop := Claim7.holds Tryz.pinned (.plain (OpenSpec.upto checkNilSpec)) checkNilUptoCard
end Rows
end Go.Proofs.YtbmedcghekgjnaaGreatDoor
