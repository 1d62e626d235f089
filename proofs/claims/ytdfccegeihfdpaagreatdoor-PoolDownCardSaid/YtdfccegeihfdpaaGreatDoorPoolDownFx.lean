/-
  PoolDown: the row's closed facts, one by one.
-/
import Derived.Test.YtdfccegeihfdpaaGreatDoorPost
import Derived.JoinedOf
import Derived.KernelRfl
namespace Go.Proofs.YtdfccegeihfdpaaGreatDoor
open Go
theorem poolDown_tt {a b : Bool} (h : a = true) (k : b = true) : (a && b) = true := by rw [h, k]; rfl
theorem poolDown_fact0 : (Rows.poolDownRow.wf (OpenSpec.ofChange Rows.poolDownSpec) : Bool) = true := by kernel_rfl
theorem poolDown_fact2 : (mapsRowed Tryz.prog : Bool) = true := by kernel_rfl
theorem poolDown_fact3 : (Tryz.f8.params.all (Tryz.prog.readableRec ·) : Bool) = true := by kernel_rfl
theorem poolDown_fact4 : (namedTie Tryz.prog Rows.poolDownRow.named Rows.poolDownSpec.vars : Bool) = true := by kernel_rfl
theorem poolDown_fact5 : ((Rows.poolDownRow.stops == []) : Bool) = true := by kernel_rfl
theorem poolDown_fact6 : ((Tryz.prog.stops == []) : Bool) = true := by kernel_rfl
theorem poolDown_fact7 : ((Rows.poolDownRow.knobs == []) : Bool) = true := by kernel_rfl
theorem poolDown_fact8 : ((Tryz.prog.stopKnobs == []) : Bool) = true := by kernel_rfl
theorem poolDown_fact9 : ((Rows.poolDownRow.inPlace == Tryz.prog.inPlace 8) : Bool) = true := by kernel_rfl
theorem poolDown_fact10 : ((Rows.poolDownRow.unfollowed == Tryz.prog.unfollowed 8) : Bool) = true := by kernel_rfl
theorem poolDown_fact11 : ((Rows.poolDownRow.recurses == Tryz.prog.recurses 8) : Bool) = true := by kernel_rfl
theorem poolDown_fact12 : ((Rows.poolDownRow.named == Tryz.prog.varsNamed 8) : Bool) = true := by kernel_rfl
theorem poolDown_fact13 : ((Rows.poolDownRow.maps == (Tryz.f8.params.toList ++ Rows.poolDownSpec.plain.varTypes Tryz.prog).any (Tryz.prog.mapsRec ·)) : Bool) = true := by kernel_rfl
theorem poolDown_fact14 : ((Rows.poolDownRow.ifaces == (Tryz.f8.params.toList ++ Rows.poolDownSpec.plain.varTypes Tryz.prog).any (Tryz.prog.ifacesRec ·)) : Bool) = true := by kernel_rfl
theorem poolDown_fact15 : ((Rows.poolDownRow.mapsOut == Tryz.prog.mapsAmong Tryz.f8.resultTypes.toList) : Bool) = true := by kernel_rfl
theorem poolDown_fact16 : ((Rows.poolDownRow.loops == (Tryz.f8.params.toList ++ Rows.poolDownSpec.plain.varTypes Tryz.prog).any (Tryz.prog.loopsFrom ·)) : Bool) = true := by kernel_rfl
theorem poolDown_fact17 : ((Rows.poolDownRow.wideKeys == (Tryz.f8.params.toList ++ Rows.poolDownSpec.plain.varTypes Tryz.prog ++ Tryz.f8.resultTypes.toList).any (Tryz.prog.wideKeysFrom ·)) : Bool) = true := by kernel_rfl
theorem poolDown_fact18 : (Rows.poolDownSpec.vars.all (Tryz.prog.varReadable ·) : Bool) = true := by kernel_rfl
theorem poolDown_fact19 : (Tryz.f8.resultTypes.all (fun t => Tryz.prog.readableRec t && decide (t < Tryz.prog.types.size)) : Bool) = true := by kernel_rfl
theorem poolDown_fact20 : ((Rows.poolDownRow.ifacesOut == Tryz.f8.resultTypes.toList.any (Tryz.prog.ifacesRec ·)) : Bool) = true := by kernel_rfl
theorem poolDown_fact21 : ((Rows.poolDownRow.loopsOut == Tryz.f8.resultTypes.toList.any (Tryz.prog.loopsFrom ·)) : Bool) = true := by kernel_rfl
theorem poolDown_fact22 : ((Rows.poolDownRow.plainKeys == Tryz.prog.plainKeys) : Bool) = true := by kernel_rfl
theorem poolDown_fact23 : (Rows.poolDownRow.shortTexts.isNone : Bool) = true := by kernel_rfl
theorem poolDown_fact24 : (Tryz.prog.stopsHeard : Bool) = true := by kernel_rfl
theorem poolDown_fact25 : (Tryz.prog.mayEnter : Bool) = true := by kernel_rfl
theorem poolDown_fact26 : ((Rows.poolDownRow.lifted == Tryz.prog.liftsFinal) : Bool) = true := by kernel_rfl
theorem poolDown_fact27 : ((Tryz.prog.make == some Rows.poolDownRow.make) : Bool) = true := by kernel_rfl
theorem poolDown_fact28 : ((Rows.poolDownRow.kinds == (if Rows.poolDownRow.domain.isEmpty then [] else Tryz.f8.params.toList.map fun t => match Tryz.prog.underlying t with | some (.int k) => some k | _ => none)) : Bool) = true := by kernel_rfl
theorem poolDown_fact29 : ((Rows.poolDownRow.pinned == Rows.poolDownRow.pinnedBy) : Bool) = true := by kernel_rfl
theorem poolDown_fact30 : ((Rows.poolDownRow.veiled == (Tryz.f8.params.toList ++ Rows.poolDownSpec.plain.varTypes Tryz.prog ++ Tryz.f8.resultTypes.toList).any (Tryz.prog.veiledRec ·)) : Bool) = true := by kernel_rfl
theorem poolDown_fact31 : (Rows.poolDownRow.veiledFits Tryz.prog Tryz.f8.params.toList (Tryz.f8.params.toList ++ Rows.poolDownSpec.plain.varTypes Tryz.prog ++ Tryz.f8.resultTypes.toList) : Bool) = true := by kernel_rfl
set_option maxRecDepth 100000 in
theorem poolDown_facts : joinedFacts Tryz.prog 8 Tryz.f8 Rows.poolDownSpec Rows.poolDownRow = true := poolDown_tt (poolDown_tt (poolDown_tt (poolDown_tt (poolDown_tt (poolDown_tt (poolDown_tt (poolDown_tt (poolDown_tt (poolDown_tt (poolDown_tt (poolDown_tt (poolDown_tt (poolDown_tt (poolDown_tt (poolDown_tt (poolDown_tt (poolDown_tt (poolDown_tt (poolDown_tt (poolDown_tt (poolDown_tt (poolDown_tt (poolDown_tt (poolDown_tt (poolDown_tt (poolDown_tt (poolDown_tt (poolDown_tt (poolDown_tt (poolDown_tt poolDown_fact0 laid_out) poolDown_fact2) poolDown_fact3) poolDown_fact4) poolDown_fact5) poolDown_fact6) poolDown_fact7) poolDown_fact8) poolDown_fact9) poolDown_fact10) poolDown_fact11) poolDown_fact12) poolDown_fact13) poolDown_fact14) poolDown_fact15) poolDown_fact16) poolDown_fact17) poolDown_fact18) poolDown_fact19) poolDown_fact20) poolDown_fact21) poolDown_fact22) poolDown_fact23) poolDown_fact24) poolDown_fact25) poolDown_fact26) poolDown_fact27) poolDown_fact28) poolDown_fact29) poolDown_fact30) poolDown_fact31
end Go.Proofs.YtdfccegeihfdpaaGreatDoor
