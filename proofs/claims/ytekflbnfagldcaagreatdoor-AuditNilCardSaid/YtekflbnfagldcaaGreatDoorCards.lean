/-
  DERIVED. GIVEN WITH THE SEED: THE CARDS: each row of YtekflbnfagldcaaGreatDoorRows.lean that lists a variable, with what it lists TIED to the program's text (the seventh form; the later family's looks); each row that meets fmt, with fmt's text TOLD by the authors' own Lean function (tested against real Go, not proved from fmt's source: count such statements apart). THE CARD IS WHAT COUNTS. Prove the row's statement (the work); the ties are given (YtekflbnfagldcaaGreatDoorTie.lean); close each card by the builder's one call (the guide's Derived/Test/ToyasCard.lean, 'card_holds'). Laid BY PROGRAM, IN A SANDBOX (cutbox-door.mjs). By AI agents, Wed Nov 11 2026. No macro, syntax, notation, axiom, sorry.
-/
import Derived.Test.YtekflbnfagldcaaGreatDoorRows
import GoSem.ClaimSeven
namespace Go.Proofs.YtekflbnfagldcaaGreatDoor
namespace Rows

/-- THE TIED CARD OF 'trothlaw28.AuditNil'. -/
def auditNilCard : Claim7 := { stood := { row := auditNilRow, standIns := [], harness := (true, "f8255aaf27866e13f2ac2fbf29695a2bb38e7b68d7d7b815205296dd66687210"), looks := true }, kinds := [], alts := [], laidByText := true, laidKinds := [.data], laidTests := true, laidLooks := .later }
def AuditNilCardSaid : Prop := Claim7.holds Tryz.pinned (.plain (OpenSpec.ofChange auditNilSpec)) auditNilCard

/-- THE SECOND FORM's CARD OF 'trothlaw28.AuditNil'. -/
def auditNilUptoCard : Claim7 := { stood := { row := auditNilUptoRow, standIns := [], harness := (true, "f8255aaf27866e13f2ac2fbf29695a2bb38e7b68d7d7b815205296dd66687210"), looks := true }, kinds := [], alts := [], laidByText := true, laidKinds := [.data], laidTests := true, laidLooks := .later }
def AuditNilUptoCardSaid : Prop := Claim7.holds Tryz.pinned (.plain (OpenSpec.upto auditNilSpec)) auditNilUptoCard
end Rows
end Go.Proofs.YtekflbnfagldcaaGreatDoor
