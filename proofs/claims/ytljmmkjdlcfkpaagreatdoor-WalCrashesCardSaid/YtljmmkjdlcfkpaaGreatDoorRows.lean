/-
  NARROWER THAN 'FOR EVERY INPUT', by the rows' own cells (each row's printed sentence says how): WalFull: laid · WalOwn: laid · WalCrashes: laid · WalMarks: laid · WalPlays: laid.
  DERIVED. THE GIVEN ROWS OF THIS SEAT. 5 by the template 'for every input the law returns true; each argument reads behind the call as it read before'; 0 by the template 'total and deterministic' (their statements: YtljmmkjdlcfkpaaGreatDoorTotals.lean).
  GIVEN WITH THE SEED: the statements are not yours to turn. If you find one false, say at which input.
  Laid BY PROGRAM, IN A SANDBOX (cutbox-rows.mjs): the forced cells as the released guide's own fill.sh prints them over the translation a51187a198ae304c… (all of the seat's roots in one cut). By AI agents, Wed Nov 11 2026. No macro, syntax, notation, axiom, sorry.
-/
import Derived.Test.YtljmmkjdlcfkpaaGreatDoorChecked
import GoSem.Claim
import GoSem.ClaimJoined
import GoSem.ClaimMapViews
import Derived.JoinedTies
import Derived.KernelRfl
namespace Go.Proofs.YtljmmkjdlcfkpaaGreatDoor
/- THE CELL 'sum', in the pinned program and in every row, IS THE sha256 OF THE DUMP (.gsa) THAT YtljmmkjdlcfkpaaGreatDoorProg.lean LOADS. Nothing in Lean hashes anything: it is a label: what it is worth is what the hold of that sum in a sandbox is worth. -/
noncomputable def Tryz.pinned : Pinned := { name := "ytljmmkjdlcfkpaagreatdoor", sum := "a51187a198ae304cc53e1d834aed7feeb955586db52f027134383b1ea798f0d7", checked := Tryz.checked }
namespace Rows
def none {H : Type} : Left H := { results := [], args := [] }

/- WHAT THE LISTED PACKAGE-LEVEL VARIABLES READ AS WHEN THE CALL BEGINS. Each datum BY PROGRAM (the guide's laid-datum.mjs) off the statement by which the dump's own 'gosem.cut.vars' lays the variable. In a bare row this is a premise. The card (YtljmmkjdlcfkpaaGreatDoorCards.lean) ties it to the program's text. -/
def laid_troth_crc_half {H : Type} : DataW H := .agg [.lit (.int .u32 0), .lit (.int .u32 498536548), .lit (.int .u32 997073096), .lit (.int .u32 651767980), .lit (.int .u32 1994146192), .lit (.int .u32 1802195444), .lit (.int .u32 1303535960), .lit (.int .u32 1342533948), .lit (.int .u32 3988292384), .lit (.int .u32 4027552580), .lit (.int .u32 3604390888), .lit (.int .u32 3412177804), .lit (.int .u32 2607071920), .lit (.int .u32 2262029012), .lit (.int .u32 2685067896), .lit (.int .u32 3183342108)]

/-- 'trothlaw09.WalFull': WHATEVER THE INPUT: true; the input reads as it did. -/
def walFullSpec : ChangeSpec := { name := "walFull", fn := fun _ => fun
  | [d1, d2] => { results := [.lit (.bool true)], args := [d1, d2] }
  | _ => none }
def walFullRow : OpenClaim := { program := "ytljmmkjdlcfkpaagreatdoor", sum := "a51187a198ae304cc53e1d834aed7feeb955586db52f027134383b1ea798f0d7", func := "troth/trothlaw09.WalFull", spec := "walFull", unfollowed := true, recurses := true, named := ["troth/crc.half"], apart := false, laid := [("troth/crc.half", laid_troth_crc_half)] }
def WalFullSaid : Prop := walFullRow.holds Tryz.pinned (OpenSpec.ofChange walFullSpec)

/-- ITS FALSE NEIGHBOUR: 'it returns false'. Refute it at one input. -/
def walFullWrong : ChangeSpec := { name := "walFull", fn := fun _ => fun
  | [d1, d2] => { results := [.lit (.bool false)], args := [d1, d2] }
  | _ => none }
def WalFullWrongFalsely : Prop := walFullRow.holds Tryz.pinned (OpenSpec.ofChange walFullWrong)

/-- 'trothlaw09.WalOwn': WHATEVER THE INPUT: true; the input reads as it did. -/
def walOwnSpec : ChangeSpec := { name := "walOwn", fn := fun _ => fun
  | [d] => { results := [.lit (.bool true)], args := [d] }
  | _ => none }
def walOwnRow : OpenClaim := { program := "ytljmmkjdlcfkpaagreatdoor", sum := "a51187a198ae304cc53e1d834aed7feeb955586db52f027134383b1ea798f0d7", func := "troth/trothlaw09.WalOwn", spec := "walOwn", unfollowed := true, recurses := true, named := ["troth/crc.half"], apart := false, laid := [("troth/crc.half", laid_troth_crc_half)] }
def WalOwnSaid : Prop := walOwnRow.holds Tryz.pinned (OpenSpec.ofChange walOwnSpec)

/-- ITS FALSE NEIGHBOUR: 'it returns false'. Refute it at one input. -/
def walOwnWrong : ChangeSpec := { name := "walOwn", fn := fun _ => fun
  | [d] => { results := [.lit (.bool false)], args := [d] }
  | _ => none }
def WalOwnWrongFalsely : Prop := walOwnRow.holds Tryz.pinned (OpenSpec.ofChange walOwnWrong)

/-- 'trothlaw09.WalCrashes': WHATEVER THE INPUT: true; the input reads as it did. -/
def walCrashesSpec : ChangeSpec := { name := "walCrashes", fn := fun _ => fun
  | [d1, d2] => { results := [.lit (.bool true)], args := [d1, d2] }
  | _ => none }
def walCrashesRow : OpenClaim := { program := "ytljmmkjdlcfkpaagreatdoor", sum := "a51187a198ae304cc53e1d834aed7feeb955586db52f027134383b1ea798f0d7", func := "troth/trothlaw09.WalCrashes", spec := "walCrashes", inPlace := ["maps.clone"], unfollowed := true, recurses := true, named := ["troth/crc.half"], apart := false, laid := [("troth/crc.half", laid_troth_crc_half)] }
def WalCrashesSaid : Prop := walCrashesRow.holds Tryz.pinned (OpenSpec.ofChange walCrashesSpec)

/-- ITS FALSE NEIGHBOUR: 'it returns false'. Refute it at one input. -/
def walCrashesWrong : ChangeSpec := { name := "walCrashes", fn := fun _ => fun
  | [d1, d2] => { results := [.lit (.bool false)], args := [d1, d2] }
  | _ => none }
def WalCrashesWrongFalsely : Prop := walCrashesRow.holds Tryz.pinned (OpenSpec.ofChange walCrashesWrong)

/-- 'trothlaw09.WalMarks': WHATEVER THE INPUT: true; the input reads as it did. -/
def walMarksSpec : ChangeSpec := { name := "walMarks", fn := fun _ => fun
  | [d1, d2, d3, d4] => { results := [.lit (.bool true)], args := [d1, d2, d3, d4] }
  | _ => none }
def walMarksRow : OpenClaim := { program := "ytljmmkjdlcfkpaagreatdoor", sum := "a51187a198ae304cc53e1d834aed7feeb955586db52f027134383b1ea798f0d7", func := "troth/trothlaw09.WalMarks", spec := "walMarks", inPlace := ["maps.clone"], unfollowed := true, recurses := true, named := ["troth/crc.half"], apart := false, laid := [("troth/crc.half", laid_troth_crc_half)] }
def WalMarksSaid : Prop := walMarksRow.holds Tryz.pinned (OpenSpec.ofChange walMarksSpec)

/-- ITS FALSE NEIGHBOUR: 'it returns false'. Refute it at one input. -/
def walMarksWrong : ChangeSpec := { name := "walMarks", fn := fun _ => fun
  | [d1, d2, d3, d4] => { results := [.lit (.bool false)], args := [d1, d2, d3, d4] }
  | _ => none }
def WalMarksWrongFalsely : Prop := walMarksRow.holds Tryz.pinned (OpenSpec.ofChange walMarksWrong)

/-- 'trothlaw09.WalPlays': WHATEVER THE INPUT: true; the input reads as it did. -/
def walPlaysSpec : ChangeSpec := { name := "walPlays", fn := fun _ => fun
  | [d1, d2] => { results := [.lit (.bool true)], args := [d1, d2] }
  | _ => none }
def walPlaysRow : OpenClaim := { program := "ytljmmkjdlcfkpaagreatdoor", sum := "a51187a198ae304cc53e1d834aed7feeb955586db52f027134383b1ea798f0d7", func := "troth/trothlaw09.WalPlays", spec := "walPlays", inPlace := ["maps.clone"], unfollowed := true, recurses := true, named := ["troth/crc.half"], apart := false, laid := [("troth/crc.half", laid_troth_crc_half)] }
def WalPlaysSaid : Prop := walPlaysRow.holds Tryz.pinned (OpenSpec.ofChange walPlaysSpec)

/-- ITS FALSE NEIGHBOUR: 'it returns false'. Refute it at one input. -/
def walPlaysWrong : ChangeSpec := { name := "walPlays", fn := fun _ => fun
  | [d1, d2] => { results := [.lit (.bool false)], args := [d1, d2] }
  | _ => none }
def WalPlaysWrongFalsely : Prop := walPlaysRow.holds Tryz.pinned (OpenSpec.ofChange walPlaysWrong)

/- THE SECOND FORM. 'bulk': how many values and letters a reading holds, each counted each time it is reached (what is shared counts as often as it is met; a slice's spare places count too). A statement '..UptoSaid' is the law's where the arguments, and the package variables that the reading takes, are together of bulk at most 1048576: NARROWER than '..Said'. Prove '..Said' where nothing that the law and all that it calls make is longer than what came in: it says more and counts as full. Else prove '..UptoSaid'. A law counts once. -/
mutual
def uptoBulk {H : Type} : DataW H → Nat
  | .lit (.string bytes) => bytes.length + 1
  | .lit _ => 1
  | .nil => 1
  | .ptr d => uptoBulk d + 1
  | .slice elems spare => uptoBulkAll elems + uptoBulkAll spare + 1
  | .agg parts => uptoBulkAll parts + 1
  | .iface _ d => uptoBulk d + 1
  | .map entries => uptoBulkEntries entries + 1
  | .held _ => 1
def uptoBulkAll {H : Type} : List (DataW H) → Nat
  | [] => 0
  | d :: r => uptoBulk d + uptoBulkAll r
def uptoBulkEntries {H : Type} : List (Lit × DataW H) → Nat
  | [] => 0
  | x :: r => uptoBulkEntry x + uptoBulkEntries r
def uptoBulkEntry {H : Type} : Lit × DataW H → Nat
  | (.string bytes, d) => bytes.length + uptoBulk d + 1
  | (_, d) => uptoBulk d + 1
 end
def uptoSmall : (H : Type) → List (DataW H) → Bool := fun _ ds => decide (uptoBulkAll ds ≤ 1048576)
def OpenSpec.upto (s : _root_.Go.ChangeSpec) : _root_.Go.OpenSpec := { _root_.Go.OpenSpec.ofChange s with cond := some uptoSmall }

/-- 'trothlaw09.WalFull', WHERE WHAT IT READS IS OF BULK AT MOST 1048576: true; the input reads as it did. -/
def walFullUptoRow : OpenClaim := { program := "ytljmmkjdlcfkpaagreatdoor", sum := "a51187a198ae304cc53e1d834aed7feeb955586db52f027134383b1ea798f0d7", func := "troth/trothlaw09.WalFull", spec := "walFull", unfollowed := true, recurses := true, named := ["troth/crc.half"], apart := false, laid := [("troth/crc.half", laid_troth_crc_half)], narrowed := true }
def WalFullUptoSaid : Prop := walFullUptoRow.holds Tryz.pinned (OpenSpec.upto walFullSpec)

/-- 'trothlaw09.WalOwn', WHERE WHAT IT READS IS OF BULK AT MOST 1048576: true; the input reads as it did. -/
def walOwnUptoRow : OpenClaim := { program := "ytljmmkjdlcfkpaagreatdoor", sum := "a51187a198ae304cc53e1d834aed7feeb955586db52f027134383b1ea798f0d7", func := "troth/trothlaw09.WalOwn", spec := "walOwn", unfollowed := true, recurses := true, named := ["troth/crc.half"], apart := false, laid := [("troth/crc.half", laid_troth_crc_half)], narrowed := true }
def WalOwnUptoSaid : Prop := walOwnUptoRow.holds Tryz.pinned (OpenSpec.upto walOwnSpec)

/-- 'trothlaw09.WalCrashes', WHERE WHAT IT READS IS OF BULK AT MOST 1048576: true; the input reads as it did. -/
def walCrashesUptoRow : OpenClaim := { program := "ytljmmkjdlcfkpaagreatdoor", sum := "a51187a198ae304cc53e1d834aed7feeb955586db52f027134383b1ea798f0d7", func := "troth/trothlaw09.WalCrashes", spec := "walCrashes", inPlace := ["maps.clone"], unfollowed := true, recurses := true, named := ["troth/crc.half"], apart := false, laid := [("troth/crc.half", laid_troth_crc_half)], narrowed := true }
def WalCrashesUptoSaid : Prop := walCrashesUptoRow.holds Tryz.pinned (OpenSpec.upto walCrashesSpec)

/-- 'trothlaw09.WalMarks', WHERE WHAT IT READS IS OF BULK AT MOST 1048576: true; the input reads as it did. -/
def walMarksUptoRow : OpenClaim := { program := "ytljmmkjdlcfkpaagreatdoor", sum := "a51187a198ae304cc53e1d834aed7feeb955586db52f027134383b1ea798f0d7", func := "troth/trothlaw09.WalMarks", spec := "walMarks", inPlace := ["maps.clone"], unfollowed := true, recurses := true, named := ["troth/crc.half"], apart := false, laid := [("troth/crc.half", laid_troth_crc_half)], narrowed := true }
def WalMarksUptoSaid : Prop := walMarksUptoRow.holds Tryz.pinned (OpenSpec.upto walMarksSpec)

/-- 'trothlaw09.WalPlays', WHERE WHAT IT READS IS OF BULK AT MOST 1048576: true; the input reads as it did. -/
def walPlaysUptoRow : OpenClaim := { program := "ytljmmkjdlcfkpaagreatdoor", sum := "a51187a198ae304cc53e1d834aed7feeb955586db52f027134383b1ea798f0d7", func := "troth/trothlaw09.WalPlays", spec := "walPlays", inPlace := ["maps.clone"], unfollowed := true, recurses := true, named := ["troth/crc.half"], apart := false, laid := [("troth/crc.half", laid_troth_crc_half)], narrowed := true }
def WalPlaysUptoSaid : Prop := walPlaysUptoRow.holds Tryz.pinned (OpenSpec.upto walPlaysSpec)

end Rows
end Go.Proofs.YtljmmkjdlcfkpaaGreatDoor
