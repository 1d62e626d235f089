/-
  NARROWER THAN 'FOR EVERY INPUT', by the rows' own cells (each row's printed sentence says how): WalPlays: laid · PoolKeeps: laid · PoolFrames: laid · PoolAhead: laid · PoolPlays: laid · PoolDown: laid.
  DERIVED. THE GIVEN ROWS OF THIS SEAT. 6 by the template 'for every input the law returns true; each argument reads behind the call as it read before'; 0 by the template 'total and deterministic' (their statements: YtdfccegeihfdpaaGreatDoorTotals.lean).
  GIVEN WITH THE SEED: the statements are not yours to turn. If you find one false, say at which input.
  Laid BY PROGRAM, IN A SANDBOX (cutbox-rows.mjs): the forced cells as the released guide's own fill.sh prints them over the translation 75706060f9e506d2… (all of the seat's roots in one cut). By AI agents, Wed Nov 11 2026. No macro, syntax, notation, axiom, sorry.
-/
import Derived.Test.YtdfccegeihfdpaaGreatDoorChecked
import GoSem.Claim
import GoSem.ClaimJoined
import GoSem.ClaimMapViews
import Derived.JoinedTies
import Derived.KernelRfl
namespace Go.Proofs.YtdfccegeihfdpaaGreatDoor
/- THE CELL 'sum', in the pinned program and in every row, IS THE sha256 OF THE DUMP (.gsa) THAT YtdfccegeihfdpaaGreatDoorProg.lean LOADS. Nothing in Lean hashes anything: it is a label: what it is worth is what the hold of that sum in a sandbox is worth. -/
noncomputable def Tryz.pinned : Pinned := { name := "ytdfccegeihfdpaagreatdoor", sum := "75706060f9e506d2834327956f97c6bada75e449c73b4960ea89d885f1019b53", checked := Tryz.checked }
namespace Rows
def none {H : Type} : Left H := { results := [], args := [] }

/- WHAT THE LISTED PACKAGE-LEVEL VARIABLES READ AS WHEN THE CALL BEGINS. Each datum BY PROGRAM (the guide's laid-datum.mjs) off the statement by which the dump's own 'gosem.cut.vars' lays the variable. In a bare row this is a premise. The card (YtdfccegeihfdpaaGreatDoorCards.lean) ties it to the program's text. -/
def laid_troth_crc_half {H : Type} : DataW H := .agg [.lit (.int .u32 0), .lit (.int .u32 498536548), .lit (.int .u32 997073096), .lit (.int .u32 651767980), .lit (.int .u32 1994146192), .lit (.int .u32 1802195444), .lit (.int .u32 1303535960), .lit (.int .u32 1342533948), .lit (.int .u32 3988292384), .lit (.int .u32 4027552580), .lit (.int .u32 3604390888), .lit (.int .u32 3412177804), .lit (.int .u32 2607071920), .lit (.int .u32 2262029012), .lit (.int .u32 2685067896), .lit (.int .u32 3183342108)]

/-- 'trothlaw09.WalPlays': WHATEVER THE INPUT: true; the input reads as it did. -/
def walPlaysSpec : ChangeSpec := { name := "walPlays", fn := fun _ => fun
  | [d1, d2] => { results := [.lit (.bool true)], args := [d1, d2] }
  | _ => none }
def walPlaysRow : OpenClaim := { program := "ytdfccegeihfdpaagreatdoor", sum := "75706060f9e506d2834327956f97c6bada75e449c73b4960ea89d885f1019b53", func := "troth/trothlaw09.WalPlays", spec := "walPlays", inPlace := ["maps.clone"], unfollowed := true, recurses := true, named := ["troth/crc.half"], apart := false, laid := [("troth/crc.half", laid_troth_crc_half)] }
def WalPlaysSaid : Prop := walPlaysRow.holds Tryz.pinned (OpenSpec.ofChange walPlaysSpec)

/-- ITS FALSE NEIGHBOUR: 'it returns false'. Refute it at one input. -/
def walPlaysWrong : ChangeSpec := { name := "walPlays", fn := fun _ => fun
  | [d1, d2] => { results := [.lit (.bool false)], args := [d1, d2] }
  | _ => none }
def WalPlaysWrongFalsely : Prop := walPlaysRow.holds Tryz.pinned (OpenSpec.ofChange walPlaysWrong)

/-- 'trothlaw12.PoolKeeps': WHATEVER THE INPUT: true; the input reads as it did. -/
def poolKeepsSpec : ChangeSpec := { name := "poolKeeps", fn := fun _ => fun
  | [d1, d2, d3] => { results := [.lit (.bool true)], args := [d1, d2, d3] }
  | _ => none }
def poolKeepsRow : OpenClaim := { program := "ytdfccegeihfdpaagreatdoor", sum := "75706060f9e506d2834327956f97c6bada75e449c73b4960ea89d885f1019b53", func := "troth/trothlaw12.PoolKeeps", spec := "poolKeeps", inPlace := ["internal/bytealg.abigen_runtime_cmpstring", "slices.overlaps[troth/api.Cell]"], unfollowed := true, recurses := true, named := ["troth/crc.half"], apart := false, laid := [("troth/crc.half", laid_troth_crc_half)] }
def PoolKeepsSaid : Prop := poolKeepsRow.holds Tryz.pinned (OpenSpec.ofChange poolKeepsSpec)

/-- ITS FALSE NEIGHBOUR: 'it returns false'. Refute it at one input. -/
def poolKeepsWrong : ChangeSpec := { name := "poolKeeps", fn := fun _ => fun
  | [d1, d2, d3] => { results := [.lit (.bool false)], args := [d1, d2, d3] }
  | _ => none }
def PoolKeepsWrongFalsely : Prop := poolKeepsRow.holds Tryz.pinned (OpenSpec.ofChange poolKeepsWrong)

/-- 'trothlaw12.PoolFrames': WHATEVER THE INPUT: true; the input reads as it did. -/
def poolFramesSpec : ChangeSpec := { name := "poolFrames", fn := fun _ => fun
  | [d1, d2, d3] => { results := [.lit (.bool true)], args := [d1, d2, d3] }
  | _ => none }
def poolFramesRow : OpenClaim := { program := "ytdfccegeihfdpaagreatdoor", sum := "75706060f9e506d2834327956f97c6bada75e449c73b4960ea89d885f1019b53", func := "troth/trothlaw12.PoolFrames", spec := "poolFrames", inPlace := ["internal/bytealg.abigen_runtime_cmpstring", "slices.overlaps[troth/api.Cell]"], unfollowed := true, recurses := true, named := ["troth/crc.half"], apart := false, laid := [("troth/crc.half", laid_troth_crc_half)] }
def PoolFramesSaid : Prop := poolFramesRow.holds Tryz.pinned (OpenSpec.ofChange poolFramesSpec)

/-- ITS FALSE NEIGHBOUR: 'it returns false'. Refute it at one input. -/
def poolFramesWrong : ChangeSpec := { name := "poolFrames", fn := fun _ => fun
  | [d1, d2, d3] => { results := [.lit (.bool false)], args := [d1, d2, d3] }
  | _ => none }
def PoolFramesWrongFalsely : Prop := poolFramesRow.holds Tryz.pinned (OpenSpec.ofChange poolFramesWrong)

/-- 'trothlaw12.PoolAhead': WHATEVER THE INPUT: true; the input reads as it did. -/
def poolAheadSpec : ChangeSpec := { name := "poolAhead", fn := fun _ => fun
  | [d1, d2, d3] => { results := [.lit (.bool true)], args := [d1, d2, d3] }
  | _ => none }
def poolAheadRow : OpenClaim := { program := "ytdfccegeihfdpaagreatdoor", sum := "75706060f9e506d2834327956f97c6bada75e449c73b4960ea89d885f1019b53", func := "troth/trothlaw12.PoolAhead", spec := "poolAhead", inPlace := ["internal/bytealg.abigen_runtime_cmpstring", "slices.overlaps[troth/api.Cell]"], unfollowed := true, recurses := true, named := ["troth/crc.half"], apart := false, laid := [("troth/crc.half", laid_troth_crc_half)] }
def PoolAheadSaid : Prop := poolAheadRow.holds Tryz.pinned (OpenSpec.ofChange poolAheadSpec)

/-- ITS FALSE NEIGHBOUR: 'it returns false'. Refute it at one input. -/
def poolAheadWrong : ChangeSpec := { name := "poolAhead", fn := fun _ => fun
  | [d1, d2, d3] => { results := [.lit (.bool false)], args := [d1, d2, d3] }
  | _ => none }
def PoolAheadWrongFalsely : Prop := poolAheadRow.holds Tryz.pinned (OpenSpec.ofChange poolAheadWrong)

/-- 'trothlaw12.PoolPlays': WHATEVER THE INPUT: true; the input reads as it did. -/
def poolPlaysSpec : ChangeSpec := { name := "poolPlays", fn := fun _ => fun
  | [d1, d2, d3] => { results := [.lit (.bool true)], args := [d1, d2, d3] }
  | _ => none }
def poolPlaysRow : OpenClaim := { program := "ytdfccegeihfdpaagreatdoor", sum := "75706060f9e506d2834327956f97c6bada75e449c73b4960ea89d885f1019b53", func := "troth/trothlaw12.PoolPlays", spec := "poolPlays", inPlace := ["internal/bytealg.abigen_runtime_cmpstring", "slices.overlaps[troth/api.Cell]"], unfollowed := true, recurses := true, named := ["troth/crc.half"], apart := false, laid := [("troth/crc.half", laid_troth_crc_half)] }
def PoolPlaysSaid : Prop := poolPlaysRow.holds Tryz.pinned (OpenSpec.ofChange poolPlaysSpec)

/-- ITS FALSE NEIGHBOUR: 'it returns false'. Refute it at one input. -/
def poolPlaysWrong : ChangeSpec := { name := "poolPlays", fn := fun _ => fun
  | [d1, d2, d3] => { results := [.lit (.bool false)], args := [d1, d2, d3] }
  | _ => none }
def PoolPlaysWrongFalsely : Prop := poolPlaysRow.holds Tryz.pinned (OpenSpec.ofChange poolPlaysWrong)

/-- 'trothlaw12.PoolDown': WHATEVER THE INPUT: true; the input reads as it did. -/
def poolDownSpec : ChangeSpec := { name := "poolDown", fn := fun _ => fun
  | [d1, d2, d3] => { results := [.lit (.bool true)], args := [d1, d2, d3] }
  | _ => none }
def poolDownRow : OpenClaim := { program := "ytdfccegeihfdpaagreatdoor", sum := "75706060f9e506d2834327956f97c6bada75e449c73b4960ea89d885f1019b53", func := "troth/trothlaw12.PoolDown", spec := "poolDown", inPlace := ["internal/bytealg.abigen_runtime_cmpstring", "slices.overlaps[troth/api.Cell]", "maps.clone"], unfollowed := true, recurses := true, named := ["troth/crc.half"], apart := false, laid := [("troth/crc.half", laid_troth_crc_half)] }
def PoolDownSaid : Prop := poolDownRow.holds Tryz.pinned (OpenSpec.ofChange poolDownSpec)

/-- ITS FALSE NEIGHBOUR: 'it returns false'. Refute it at one input. -/
def poolDownWrong : ChangeSpec := { name := "poolDown", fn := fun _ => fun
  | [d1, d2, d3] => { results := [.lit (.bool false)], args := [d1, d2, d3] }
  | _ => none }
def PoolDownWrongFalsely : Prop := poolDownRow.holds Tryz.pinned (OpenSpec.ofChange poolDownWrong)

/- THE SECOND FORM. 'bulk': how many values and letters a reading holds, each counted each time it is reached (what is shared counts as often as it is met; a slice's spare places count too). A statement '..UptoSaid' is the law's where the arguments, and the package variables that the reading takes, are together of bulk at most 1048576: NARROWER than '..Said'. Prove '..Said' where nothing that the law and all that it calls make is longer than what came in: it says more and counts as full. Else prove '..UptoSaid'. A law counts once. -/
mutual
def uptoBulk {H : Type} : DataW H → Nat
  | .lit (.string bytes) => bytes.length + 1
  | .lit _ => 1
  | .nil => 1
  | .ptr d => uptoBulk d + 1
  | .slice elems spare => uptoBulkAll elems + uptoBulkAll spare + 1
  | .agg parts => uptoBulkAll parts + 1
  | .iface _ d => uptoBulk d + 1
  | .map entries => uptoBulkEntries entries + 1
  | .held _ => 1
def uptoBulkAll {H : Type} : List (DataW H) → Nat
  | [] => 0
  | d :: r => uptoBulk d + uptoBulkAll r
def uptoBulkEntries {H : Type} : List (Lit × DataW H) → Nat
  | [] => 0
  | x :: r => uptoBulkEntry x + uptoBulkEntries r
def uptoBulkEntry {H : Type} : Lit × DataW H → Nat
  | (.string bytes, d) => bytes.length + uptoBulk d + 1
  | (_, d) => uptoBulk d + 1
 end
def uptoSmall : (H : Type) → List (DataW H) → Bool := fun _ ds => decide (uptoBulkAll ds ≤ 1048576)
def OpenSpec.upto (s : _root_.Go.ChangeSpec) : _root_.Go.OpenSpec := { _root_.Go.OpenSpec.ofChange s with cond := some uptoSmall }

/-- 'trothlaw09.WalPlays', WHERE WHAT IT READS IS OF BULK AT MOST 1048576: true; the input reads as it did. -/
def walPlaysUptoRow : OpenClaim := { program := "ytdfccegeihfdpaagreatdoor", sum := "75706060f9e506d2834327956f97c6bada75e449c73b4960ea89d885f1019b53", func := "troth/trothlaw09.WalPlays", spec := "walPlays", inPlace := ["maps.clone"], unfollowed := true, recurses := true, named := ["troth/crc.half"], apart := false, laid := [("troth/crc.half", laid_troth_crc_half)], narrowed := true }
def WalPlaysUptoSaid : Prop := walPlaysUptoRow.holds Tryz.pinned (OpenSpec.upto walPlaysSpec)

/-- 'trothlaw12.PoolKeeps', WHERE WHAT IT READS IS OF BULK AT MOST 1048576: true; the input reads as it did. -/
def poolKeepsUptoRow : OpenClaim := { program := "ytdfccegeihfdpaagreatdoor", sum := "75706060f9e506d2834327956f97c6bada75e449c73b4960ea89d885f1019b53", func := "troth/trothlaw12.PoolKeeps", spec := "poolKeeps", inPlace := ["internal/bytealg.abigen_runtime_cmpstring", "slices.overlaps[troth/api.Cell]"], unfollowed := true, recurses := true, named := ["troth/crc.half"], apart := false, laid := [("troth/crc.half", laid_troth_crc_half)], narrowed := true }
def PoolKeepsUptoSaid : Prop := poolKeepsUptoRow.holds Tryz.pinned (OpenSpec.upto poolKeepsSpec)

/-- 'trothlaw12.PoolFrames', WHERE WHAT IT READS IS OF BULK AT MOST 1048576: true; the input reads as it did. -/
def poolFramesUptoRow : OpenClaim := { program := "ytdfccegeihfdpaagreatdoor", sum := "75706060f9e506d2834327956f97c6bada75e449c73b4960ea89d885f1019b53", func := "troth/trothlaw12.PoolFrames", spec := "poolFrames", inPlace := ["internal/bytealg.abigen_runtime_cmpstring", "slices.overlaps[troth/api.Cell]"], unfollowed := true, recurses := true, named := ["troth/crc.half"], apart := false, laid := [("troth/crc.half", laid_troth_crc_half)], narrowed := true }
def PoolFramesUptoSaid : Prop := poolFramesUptoRow.holds Tryz.pinned (OpenSpec.upto poolFramesSpec)

/-- 'trothlaw12.PoolAhead', WHERE WHAT IT READS IS OF BULK AT MOST 1048576: true; the input reads as it did. -/
def poolAheadUptoRow : OpenClaim := { program := "ytdfccegeihfdpaagreatdoor", sum := "75706060f9e506d2834327956f97c6bada75e449c73b4960ea89d885f1019b53", func := "troth/trothlaw12.PoolAhead", spec := "poolAhead", inPlace := ["internal/bytealg.abigen_runtime_cmpstring", "slices.overlaps[troth/api.Cell]"], unfollowed := true, recurses := true, named := ["troth/crc.half"], apart := false, laid := [("troth/crc.half", laid_troth_crc_half)], narrowed := true }
def PoolAheadUptoSaid : Prop := poolAheadUptoRow.holds Tryz.pinned (OpenSpec.upto poolAheadSpec)

/-- 'trothlaw12.PoolPlays', WHERE WHAT IT READS IS OF BULK AT MOST 1048576: true; the input reads as it did. -/
def poolPlaysUptoRow : OpenClaim := { program := "ytdfccegeihfdpaagreatdoor", sum := "75706060f9e506d2834327956f97c6bada75e449c73b4960ea89d885f1019b53", func := "troth/trothlaw12.PoolPlays", spec := "poolPlays", inPlace := ["internal/bytealg.abigen_runtime_cmpstring", "slices.overlaps[troth/api.Cell]"], unfollowed := true, recurses := true, named := ["troth/crc.half"], apart := false, laid := [("troth/crc.half", laid_troth_crc_half)], narrowed := true }
def PoolPlaysUptoSaid : Prop := poolPlaysUptoRow.holds Tryz.pinned (OpenSpec.upto poolPlaysSpec)

/-- 'trothlaw12.PoolDown', WHERE WHAT IT READS IS OF BULK AT MOST 1048576: true; the input reads as it did. -/
def poolDownUptoRow : OpenClaim := { program := "ytdfccegeihfdpaagreatdoor", sum := "75706060f9e506d2834327956f97c6bada75e449c73b4960ea89d885f1019b53", func := "troth/trothlaw12.PoolDown", spec := "poolDown", inPlace := ["internal/bytealg.abigen_runtime_cmpstring", "slices.overlaps[troth/api.Cell]", "maps.clone"], unfollowed := true, recurses := true, named := ["troth/crc.half"], apart := false, laid := [("troth/crc.half", laid_troth_crc_half)], narrowed := true }
def PoolDownUptoSaid : Prop := poolDownUptoRow.holds Tryz.pinned (OpenSpec.upto poolDownSpec)

end Rows
end Go.Proofs.YtdfccegeihfdpaaGreatDoor
