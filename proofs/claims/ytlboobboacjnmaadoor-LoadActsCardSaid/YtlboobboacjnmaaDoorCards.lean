/-
  DERIVED. GIVEN WITH THE SEED: THE CARDS: each row of YtlboobboacjnmaaDoorRows.lean that lists a variable, with what it lists TIED to the program's text (the seventh form; the later family's looks); each row that meets fmt, with fmt's text TOLD by the authors' own Lean function (tested against real Go, not proved from fmt's source: count such statements apart). THE CARD IS WHAT COUNTS. Prove the row's statement (the work); the ties are given (YtlboobboacjnmaaDoorTie.lean); close each card by the builder's one call (the guide's Derived/Test/ToyasCard.lean, 'card_holds'). Laid BY PROGRAM, IN A SANDBOX (cutbox-door.mjs). By AI agents, Wed Nov 11 2026. No macro, syntax, notation, axiom, sorry.
-/
import Derived.Test.YtlboobboacjnmaaDoorRows
import GoSem.ClaimSeven
namespace Go.Proofs.YtlboobboacjnmaaDoor
namespace Rows

/-- THE TIED CARD OF 'trothlaw30.LoadActs'. -/
def loadActsCard : Claim7 := { stood := { row := loadActsRow, standIns := [], harness := (true, "284d1887ec53e91f768be5ee46aa58773a3972957de6f2747bf64ec46e9ded7b"), looks := false }, kinds := [], alts := [], laidByText := true, laidKinds := [.data, .data, .data], laidTests := true, laidLooks := .later }
def LoadActsCardSaid : Prop := Claim7.holds Tryd.pinned (.plain (OpenSpec.ofChange loadActsSpec)) loadActsCard

/-- THE SECOND FORM's CARD OF 'trothlaw30.LoadActs'. -/
def loadActsUptoCard : Claim7 := { stood := { row := loadActsUptoRow, standIns := [], harness := (true, "284d1887ec53e91f768be5ee46aa58773a3972957de6f2747bf64ec46e9ded7b"), looks := false }, kinds := [], alts := [], laidByText := true, laidKinds := [.data, .data, .data], laidTests := true, laidLooks := .later }
def LoadActsUptoCardSaid : Prop := Claim7.holds Tryd.pinned (.plain (OpenSpec.upto loadActsSpec)) loadActsUptoCard
end Rows
end Go.Proofs.YtlboobboacjnmaaDoor
