/-
  PoolKeeps: the row's closed facts, one by one.
-/
import Derived.Test.YtdfccegeihfdpaaGreatDoorPost
import Derived.JoinedOf
import Derived.KernelRfl
namespace Go.Proofs.YtdfccegeihfdpaaGreatDoor
open Go
theorem poolKeeps_tt {a b : Bool} (h : a = true) (k : b = true) : (a && b) = true := by rw [h, k]; rfl
theorem poolKeeps_fact0 : (Rows.poolKeepsRow.wf (OpenSpec.ofChange Rows.poolKeepsSpec) : Bool) = true := by kernel_rfl
theorem poolKeeps_fact2 : (mapsRowed Tryz.prog : Bool) = true := by kernel_rfl
theorem poolKeeps_fact3 : (Tryz.f4.params.all (Tryz.prog.readableRec ·) : Bool) = true := by kernel_rfl
theorem poolKeeps_fact4 : (namedTie Tryz.prog Rows.poolKeepsRow.named Rows.poolKeepsSpec.vars : Bool) = true := by kernel_rfl
theorem poolKeeps_fact5 : ((Rows.poolKeepsRow.stops == []) : Bool) = true := by kernel_rfl
theorem poolKeeps_fact6 : ((Tryz.prog.stops == []) : Bool) = true := by kernel_rfl
theorem poolKeeps_fact7 : ((Rows.poolKeepsRow.knobs == []) : Bool) = true := by kernel_rfl
theorem poolKeeps_fact8 : ((Tryz.prog.stopKnobs == []) : Bool) = true := by kernel_rfl
theorem poolKeeps_fact9 : ((Rows.poolKeepsRow.inPlace == Tryz.prog.inPlace 4) : Bool) = true := by kernel_rfl
theorem poolKeeps_fact10 : ((Rows.poolKeepsRow.unfollowed == Tryz.prog.unfollowed 4) : Bool) = true := by kernel_rfl
theorem poolKeeps_fact11 : ((Rows.poolKeepsRow.recurses == Tryz.prog.recurses 4) : Bool) = true := by kernel_rfl
theorem poolKeeps_fact12 : ((Rows.poolKeepsRow.named == Tryz.prog.varsNamed 4) : Bool) = true := by kernel_rfl
theorem poolKeeps_fact13 : ((Rows.poolKeepsRow.maps == (Tryz.f4.params.toList ++ Rows.poolKeepsSpec.plain.varTypes Tryz.prog).any (Tryz.prog.mapsRec ·)) : Bool) = true := by kernel_rfl
theorem poolKeeps_fact14 : ((Rows.poolKeepsRow.ifaces == (Tryz.f4.params.toList ++ Rows.poolKeepsSpec.plain.varTypes Tryz.prog).any (Tryz.prog.ifacesRec ·)) : Bool) = true := by kernel_rfl
theorem poolKeeps_fact15 : ((Rows.poolKeepsRow.mapsOut == Tryz.prog.mapsAmong Tryz.f4.resultTypes.toList) : Bool) = true := by kernel_rfl
theorem poolKeeps_fact16 : ((Rows.poolKeepsRow.loops == (Tryz.f4.params.toList ++ Rows.poolKeepsSpec.plain.varTypes Tryz.prog).any (Tryz.prog.loopsFrom ·)) : Bool) = true := by kernel_rfl
theorem poolKeeps_fact17 : ((Rows.poolKeepsRow.wideKeys == (Tryz.f4.params.toList ++ Rows.poolKeepsSpec.plain.varTypes Tryz.prog ++ Tryz.f4.resultTypes.toList).any (Tryz.prog.wideKeysFrom ·)) : Bool) = true := by kernel_rfl
theorem poolKeeps_fact18 : (Rows.poolKeepsSpec.vars.all (Tryz.prog.varReadable ·) : Bool) = true := by kernel_rfl
theorem poolKeeps_fact19 : (Tryz.f4.resultTypes.all (fun t => Tryz.prog.readableRec t && decide (t < Tryz.prog.types.size)) : Bool) = true := by kernel_rfl
theorem poolKeeps_fact20 : ((Rows.poolKeepsRow.ifacesOut == Tryz.f4.resultTypes.toList.any (Tryz.prog.ifacesRec ·)) : Bool) = true := by kernel_rfl
theorem poolKeeps_fact21 : ((Rows.poolKeepsRow.loopsOut == Tryz.f4.resultTypes.toList.any (Tryz.prog.loopsFrom ·)) : Bool) = true := by kernel_rfl
theorem poolKeeps_fact22 : ((Rows.poolKeepsRow.plainKeys == Tryz.prog.plainKeys) : Bool) = true := by kernel_rfl
theorem poolKeeps_fact23 : (Rows.poolKeepsRow.shortTexts.isNone : Bool) = true := by kernel_rfl
theorem poolKeeps_fact24 : (Tryz.prog.stopsHeard : Bool) = true := by kernel_rfl
theorem poolKeeps_fact25 : (Tryz.prog.mayEnter : Bool) = true := by kernel_rfl
theorem poolKeeps_fact26 : ((Rows.poolKeepsRow.lifted == Tryz.prog.liftsFinal) : Bool) = true := by kernel_rfl
theorem poolKeeps_fact27 : ((Tryz.prog.make == some Rows.poolKeepsRow.make) : Bool) = true := by kernel_rfl
theorem poolKeeps_fact28 : ((Rows.poolKeepsRow.kinds == (if Rows.poolKeepsRow.domain.isEmpty then [] else Tryz.f4.params.toList.map fun t => match Tryz.prog.underlying t with | some (.int k) => some k | _ => none)) : Bool) = true := by kernel_rfl
theorem poolKeeps_fact29 : ((Rows.poolKeepsRow.pinned == Rows.poolKeepsRow.pinnedBy) : Bool) = true := by kernel_rfl
theorem poolKeeps_fact30 : ((Rows.poolKeepsRow.veiled == (Tryz.f4.params.toList ++ Rows.poolKeepsSpec.plain.varTypes Tryz.prog ++ Tryz.f4.resultTypes.toList).any (Tryz.prog.veiledRec ·)) : Bool) = true := by kernel_rfl
theorem poolKeeps_fact31 : (Rows.poolKeepsRow.veiledFits Tryz.prog Tryz.f4.params.toList (Tryz.f4.params.toList ++ Rows.poolKeepsSpec.plain.varTypes Tryz.prog ++ Tryz.f4.resultTypes.toList) : Bool) = true := by kernel_rfl
set_option maxRecDepth 100000 in
theorem poolKeeps_facts : joinedFacts Tryz.prog 4 Tryz.f4 Rows.poolKeepsSpec Rows.poolKeepsRow = true := poolKeeps_tt (poolKeeps_tt (poolKeeps_tt (poolKeeps_tt (poolKeeps_tt (poolKeeps_tt (poolKeeps_tt (poolKeeps_tt (poolKeeps_tt (poolKeeps_tt (poolKeeps_tt (poolKeeps_tt (poolKeeps_tt (poolKeeps_tt (poolKeeps_tt (poolKeeps_tt (poolKeeps_tt (poolKeeps_tt (poolKeeps_tt (poolKeeps_tt (poolKeeps_tt (poolKeeps_tt (poolKeeps_tt (poolKeeps_tt (poolKeeps_tt (poolKeeps_tt (poolKeeps_tt (poolKeeps_tt (poolKeeps_tt (poolKeeps_tt (poolKeeps_tt poolKeeps_fact0 laid_out) poolKeeps_fact2) poolKeeps_fact3) poolKeeps_fact4) poolKeeps_fact5) poolKeeps_fact6) poolKeeps_fact7) poolKeeps_fact8) poolKeeps_fact9) poolKeeps_fact10) poolKeeps_fact11) poolKeeps_fact12) poolKeeps_fact13) poolKeeps_fact14) poolKeeps_fact15) poolKeeps_fact16) poolKeeps_fact17) poolKeeps_fact18) poolKeeps_fact19) poolKeeps_fact20) poolKeeps_fact21) poolKeeps_fact22) poolKeeps_fact23) poolKeeps_fact24) poolKeeps_fact25) poolKeeps_fact26) poolKeeps_fact27) poolKeeps_fact28) poolKeeps_fact29) poolKeeps_fact30) poolKeeps_fact31
end Go.Proofs.YtdfccegeihfdpaaGreatDoor
