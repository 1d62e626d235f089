/-
  CheckKeeps: the row's closed facts, one by one.
-/
import Derived.Test.YtlngdekaipipgaaGreatDoorPost
import Derived.JoinedOf
import Derived.KernelRfl
namespace Go.Proofs.YtlngdekaipipgaaGreatDoor
open Go
theorem checkKeeps_tt {a b : Bool} (h : a = true) (k : b = true) : (a && b) = true := by rw [h, k]; rfl
theorem checkKeeps_fact0 : (Rows.checkKeepsRow.wf (OpenSpec.ofChange Rows.checkKeepsSpec) : Bool) = true := by kernel_rfl
theorem checkKeeps_fact2 : (mapsRowed Tryz.prog : Bool) = true := by kernel_rfl
theorem checkKeeps_fact3 : (Tryz.f5.params.all (Tryz.prog.readableRec ·) : Bool) = true := by kernel_rfl
theorem checkKeeps_fact4 : (namedTie Tryz.prog Rows.checkKeepsRow.named Rows.checkKeepsSpec.vars : Bool) = true := by kernel_rfl
theorem checkKeeps_fact5 : ((Rows.checkKeepsRow.stops == []) : Bool) = true := by kernel_rfl
theorem checkKeeps_fact6 : ((Tryz.prog.stops == []) : Bool) = true := by kernel_rfl
theorem checkKeeps_fact7 : ((Rows.checkKeepsRow.knobs == []) : Bool) = true := by kernel_rfl
theorem checkKeeps_fact8 : ((Tryz.prog.stopKnobs == []) : Bool) = true := by kernel_rfl
theorem checkKeeps_fact9 : ((Rows.checkKeepsRow.inPlace == Tryz.prog.inPlace 5) : Bool) = true := by kernel_rfl
theorem checkKeeps_fact10 : ((Rows.checkKeepsRow.unfollowed == Tryz.prog.unfollowed 5) : Bool) = true := by kernel_rfl
theorem checkKeeps_fact11 : ((Rows.checkKeepsRow.recurses == Tryz.prog.recurses 5) : Bool) = true := by kernel_rfl
theorem checkKeeps_fact12 : ((Rows.checkKeepsRow.named == Tryz.prog.varsNamed 5) : Bool) = true := by kernel_rfl
theorem checkKeeps_fact13 : ((Rows.checkKeepsRow.maps == (Tryz.f5.params.toList ++ Rows.checkKeepsSpec.plain.varTypes Tryz.prog).any (Tryz.prog.mapsRec ·)) : Bool) = true := by kernel_rfl
theorem checkKeeps_fact14 : ((Rows.checkKeepsRow.ifaces == (Tryz.f5.params.toList ++ Rows.checkKeepsSpec.plain.varTypes Tryz.prog).any (Tryz.prog.ifacesRec ·)) : Bool) = true := by kernel_rfl
theorem checkKeeps_fact15 : ((Rows.checkKeepsRow.mapsOut == Tryz.prog.mapsAmong Tryz.f5.resultTypes.toList) : Bool) = true := by kernel_rfl
theorem checkKeeps_fact16 : ((Rows.checkKeepsRow.loops == (Tryz.f5.params.toList ++ Rows.checkKeepsSpec.plain.varTypes Tryz.prog).any (Tryz.prog.loopsFrom ·)) : Bool) = true := by kernel_rfl
theorem checkKeeps_fact17 : ((Rows.checkKeepsRow.wideKeys == (Tryz.f5.params.toList ++ Rows.checkKeepsSpec.plain.varTypes Tryz.prog ++ Tryz.f5.resultTypes.toList).any (Tryz.prog.wideKeysFrom ·)) : Bool) = true := by kernel_rfl
theorem checkKeeps_fact18 : (Rows.checkKeepsSpec.vars.all (Tryz.prog.varReadable ·) : Bool) = true := by kernel_rfl
theorem checkKeeps_fact19 : (Tryz.f5.resultTypes.all (fun t => Tryz.prog.readableRec t && decide (t < Tryz.prog.types.size)) : Bool) = true := by kernel_rfl
theorem checkKeeps_fact20 : ((Rows.checkKeepsRow.ifacesOut == Tryz.f5.resultTypes.toList.any (Tryz.prog.ifacesRec ·)) : Bool) = true := by kernel_rfl
theorem checkKeeps_fact21 : ((Rows.checkKeepsRow.loopsOut == Tryz.f5.resultTypes.toList.any (Tryz.prog.loopsFrom ·)) : Bool) = true := by kernel_rfl
theorem checkKeeps_fact22 : ((Rows.checkKeepsRow.plainKeys == Tryz.prog.plainKeys) : Bool) = true := by kernel_rfl
theorem checkKeeps_fact23 : (Rows.checkKeepsRow.shortTexts.isNone : Bool) = true := by kernel_rfl
theorem checkKeeps_fact24 : (Tryz.prog.stopsHeard : Bool) = true := by kernel_rfl
theorem checkKeeps_fact25 : (Tryz.prog.mayEnter : Bool) = true := by kernel_rfl
theorem checkKeeps_fact26 : ((Rows.checkKeepsRow.lifted == Tryz.prog.liftsFinal) : Bool) = true := by kernel_rfl
theorem checkKeeps_fact27 : ((Tryz.prog.make == some Rows.checkKeepsRow.make) : Bool) = true := by kernel_rfl
theorem checkKeeps_fact28 : ((Rows.checkKeepsRow.kinds == (if Rows.checkKeepsRow.domain.isEmpty then [] else Tryz.f5.params.toList.map fun t => match Tryz.prog.underlying t with | some (.int k) => some k | _ => none)) : Bool) = true := by kernel_rfl
theorem checkKeeps_fact29 : ((Rows.checkKeepsRow.pinned == Rows.checkKeepsRow.pinnedBy) : Bool) = true := by kernel_rfl
theorem checkKeeps_fact30 : ((Rows.checkKeepsRow.veiled == (Tryz.f5.params.toList ++ Rows.checkKeepsSpec.plain.varTypes Tryz.prog ++ Tryz.f5.resultTypes.toList).any (Tryz.prog.veiledRec ·)) : Bool) = true := by kernel_rfl
theorem checkKeeps_fact31 : (Rows.checkKeepsRow.veiledFits Tryz.prog Tryz.f5.params.toList (Tryz.f5.params.toList ++ Rows.checkKeepsSpec.plain.varTypes Tryz.prog ++ Tryz.f5.resultTypes.toList) : Bool) = true := by kernel_rfl
set_option maxRecDepth 100000 in
theorem checkKeeps_facts : joinedFacts Tryz.prog 5 Tryz.f5 Rows.checkKeepsSpec Rows.checkKeepsRow = true := checkKeeps_tt (checkKeeps_tt (checkKeeps_tt (checkKeeps_tt (checkKeeps_tt (checkKeeps_tt (checkKeeps_tt (checkKeeps_tt (checkKeeps_tt (checkKeeps_tt (checkKeeps_tt (checkKeeps_tt (checkKeeps_tt (checkKeeps_tt (checkKeeps_tt (checkKeeps_tt (checkKeeps_tt (checkKeeps_tt (checkKeeps_tt (checkKeeps_tt (checkKeeps_tt (checkKeeps_tt (checkKeeps_tt (checkKeeps_tt (checkKeeps_tt (checkKeeps_tt (checkKeeps_tt (checkKeeps_tt (checkKeeps_tt (checkKeeps_tt (checkKeeps_tt checkKeeps_fact0 laid_out) checkKeeps_fact2) checkKeeps_fact3) checkKeeps_fact4) checkKeeps_fact5) checkKeeps_fact6) checkKeeps_fact7) checkKeeps_fact8) checkKeeps_fact9) checkKeeps_fact10) checkKeeps_fact11) checkKeeps_fact12) checkKeeps_fact13) checkKeeps_fact14) checkKeeps_fact15) checkKeeps_fact16) checkKeeps_fact17) checkKeeps_fact18) checkKeeps_fact19) checkKeeps_fact20) checkKeeps_fact21) checkKeeps_fact22) checkKeeps_fact23) checkKeeps_fact24) checkKeeps_fact25) checkKeeps_fact26) checkKeeps_fact27) checkKeeps_fact28) checkKeeps_fact29) checkKeeps_fact30) checkKeeps_fact31
end Go.Proofs.YtlngdekaipipgaaGreatDoor
