/-
  DERIVED. GIVEN WITH THE SEED: THE CARDS: each row of YtlngdekaipipgaaGreatDoorRows.lean that lists a variable, with what it lists TIED to the program's text (the seventh form; the later family's looks); each row that meets fmt, with fmt's text TOLD by the authors' own Lean function (tested against real Go, not proved from fmt's source: count such statements apart). THE CARD IS WHAT COUNTS. Prove the row's statement (the work); the ties are given (YtlngdekaipipgaaGreatDoorTie.lean); close each card by the builder's one call (the guide's Derived/Test/ToyasCard.lean, 'card_holds'). Laid BY PROGRAM, IN A SANDBOX (cutbox-door.mjs). By AI agents, Wed Nov 11 2026. No macro, syntax, notation, axiom, sorry.
-/
import Derived.Test.YtlngdekaipipgaaGreatDoorRows
import GoSem.ClaimSeven
namespace Go.Proofs.YtlngdekaipipgaaGreatDoor
namespace Rows

/-- THE TIED CARD OF 'trothlaw18.RestartNil'. -/
def restartNilCard : Claim7 := { stood := { row := restartNilRow, standIns := [], harness := (true, "3de2d20a9926c04fd2c429e8d6a1dd56c306f726f2aecf37006369d962905aea"), looks := true }, kinds := [], alts := [], laidByText := true, laidKinds := [.data], laidTests := true, laidLooks := .later }
def RestartNilCardSaid : Prop := Claim7.holds Tryz.pinned (.plain (OpenSpec.ofChange restartNilSpec)) restartNilCard

/-- THE TIED CARD OF 'trothlaw28.AuditNil'. -/
def auditNilCard : Claim7 := { stood := { row := auditNilRow, standIns := [], harness := (true, "3de2d20a9926c04fd2c429e8d6a1dd56c306f726f2aecf37006369d962905aea"), looks := true }, kinds := [], alts := [], laidByText := true, laidKinds := [.data], laidTests := true, laidLooks := .later }
def AuditNilCardSaid : Prop := Claim7.holds Tryz.pinned (.plain (OpenSpec.ofChange auditNilSpec)) auditNilCard

/-- THE TIED CARD OF 'trothlaw17.CheckKeeps'. -/
def checkKeepsCard : Claim7 := { stood := { row := checkKeepsRow, standIns := [], harness := (true, "3de2d20a9926c04fd2c429e8d6a1dd56c306f726f2aecf37006369d962905aea"), looks := true }, kinds := [], alts := [], laidByText := true, laidKinds := [.data], laidTests := true, laidLooks := .later }
def CheckKeepsCardSaid : Prop := Claim7.holds Tryz.pinned (.plain (OpenSpec.ofChange checkKeepsSpec)) checkKeepsCard

/-- THE TIED CARD OF 'trothlaw28.AuditTexts'. -/
def auditTextsCard : Claim7 := { stood := { row := auditTextsRow, standIns := [], harness := (true, "3de2d20a9926c04fd2c429e8d6a1dd56c306f726f2aecf37006369d962905aea"), looks := true }, kinds := [], alts := [], laidByText := true, laidKinds := [.data, .data, .data, .data, .data], laidTests := true, laidLooks := .later }
def AuditTextsCardSaid : Prop := Claim7.holds Tryz.pinned (.plain (OpenSpec.ofChange auditTextsSpec)) auditTextsCard

/-- THE SECOND FORM's CARD OF 'trothlaw18.RestartNil'. -/
def restartNilUptoCard : Claim7 := { stood := { row := restartNilUptoRow, standIns := [], harness := (true, "3de2d20a9926c04fd2c429e8d6a1dd56c306f726f2aecf37006369d962905aea"), looks := true }, kinds := [], alts := [], laidByText := true, laidKinds := [.data], laidTests := true, laidLooks := .later }
def RestartNilUptoCardSaid : Prop := Claim7.holds Tryz.pinned (.plain (OpenSpec.upto restartNilSpec)) restartNilUptoCard

/-- THE SECOND FORM's CARD OF 'trothlaw28.AuditNil'. -/
def auditNilUptoCard : Claim7 := { stood := { row := auditNilUptoRow, standIns := [], harness := (true, "3de2d20a9926c04fd2c429e8d6a1dd56c306f726f2aecf37006369d962905aea"), looks := true }, kinds := [], alts := [], laidByText := true, laidKinds := [.data], laidTests := true, laidLooks := .later }
def AuditNilUptoCardSaid : Prop := Claim7.holds Tryz.pinned (.plain (OpenSpec.upto auditNilSpec)) auditNilUptoCard

/-- THE SECOND FORM's CARD OF 'trothlaw17.CheckKeeps'. -/
def checkKeepsUptoCard : Claim7 := { stood := { row := checkKeepsUptoRow, standIns := [], harness := (true, "3de2d20a9926c04fd2c429e8d6a1dd56c306f726f2aecf37006369d962905aea"), looks := true }, kinds := [], alts := [], laidByText := true, laidKinds := [.data], laidTests := true, laidLooks := .later }
def CheckKeepsUptoCardSaid : Prop := Claim7.holds Tryz.pinned (.plain (OpenSpec.upto checkKeepsSpec)) checkKeepsUptoCard

/-- THE SECOND FORM's CARD OF 'trothlaw28.AuditTexts'. -/
def auditTextsUptoCard : Claim7 := { stood := { row := auditTextsUptoRow, standIns := [], harness := (true, "3de2d20a9926c04fd2c429e8d6a1dd56c306f726f2aecf37006369d962905aea"), looks := true }, kinds := [], alts := [], laidByText := true, laidKinds := [.data, .data, .data, .data, .data], laidTests := true, laidLooks := .later }
def AuditTextsUptoCardSaid : Prop := Claim7.holds Tryz.pinned (.plain (OpenSpec.upto auditTextsSpec)) auditTextsUptoCard
end Rows
end Go.Proofs.YtlngdekaipipgaaGreatDoor
