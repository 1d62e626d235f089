/-
  RestartNil: the row's closed facts, one by one.
-/
import Derived.Test.YtlngdekaipipgaaGreatDoorPost
import Derived.JoinedOf
import Derived.KernelRfl
namespace Go.Proofs.YtlngdekaipipgaaGreatDoor
open Go
theorem restartNil_tt {a b : Bool} (h : a = true) (k : b = true) : (a && b) = true := by rw [h, k]; rfl
theorem restartNil_fact0 : (Rows.restartNilRow.wf (OpenSpec.ofChange Rows.restartNilSpec) : Bool) = true := by kernel_rfl
theorem restartNil_fact2 : (mapsRowed Tryz.prog : Bool) = true := by kernel_rfl
theorem restartNil_fact3 : (Tryz.f3.params.all (Tryz.prog.readableRec ·) : Bool) = true := by kernel_rfl
theorem restartNil_fact4 : (namedTie Tryz.prog Rows.restartNilRow.named Rows.restartNilSpec.vars : Bool) = true := by kernel_rfl
theorem restartNil_fact5 : ((Rows.restartNilRow.stops == []) : Bool) = true := by kernel_rfl
theorem restartNil_fact6 : ((Tryz.prog.stops == []) : Bool) = true := by kernel_rfl
theorem restartNil_fact7 : ((Rows.restartNilRow.knobs == []) : Bool) = true := by kernel_rfl
theorem restartNil_fact8 : ((Tryz.prog.stopKnobs == []) : Bool) = true := by kernel_rfl
theorem restartNil_fact9 : ((Rows.restartNilRow.inPlace == Tryz.prog.inPlace 3) : Bool) = true := by kernel_rfl
theorem restartNil_fact10 : ((Rows.restartNilRow.unfollowed == Tryz.prog.unfollowed 3) : Bool) = true := by kernel_rfl
theorem restartNil_fact11 : ((Rows.restartNilRow.recurses == Tryz.prog.recurses 3) : Bool) = true := by kernel_rfl
theorem restartNil_fact12 : ((Rows.restartNilRow.named == Tryz.prog.varsNamed 3) : Bool) = true := by kernel_rfl
theorem restartNil_fact13 : ((Rows.restartNilRow.maps == (Tryz.f3.params.toList ++ Rows.restartNilSpec.plain.varTypes Tryz.prog).any (Tryz.prog.mapsRec ·)) : Bool) = true := by kernel_rfl
theorem restartNil_fact14 : ((Rows.restartNilRow.ifaces == (Tryz.f3.params.toList ++ Rows.restartNilSpec.plain.varTypes Tryz.prog).any (Tryz.prog.ifacesRec ·)) : Bool) = true := by kernel_rfl
theorem restartNil_fact15 : ((Rows.restartNilRow.mapsOut == Tryz.prog.mapsAmong Tryz.f3.resultTypes.toList) : Bool) = true := by kernel_rfl
theorem restartNil_fact16 : ((Rows.restartNilRow.loops == (Tryz.f3.params.toList ++ Rows.restartNilSpec.plain.varTypes Tryz.prog).any (Tryz.prog.loopsFrom ·)) : Bool) = true := by kernel_rfl
theorem restartNil_fact17 : ((Rows.restartNilRow.wideKeys == (Tryz.f3.params.toList ++ Rows.restartNilSpec.plain.varTypes Tryz.prog ++ Tryz.f3.resultTypes.toList).any (Tryz.prog.wideKeysFrom ·)) : Bool) = true := by kernel_rfl
theorem restartNil_fact18 : (Rows.restartNilSpec.vars.all (Tryz.prog.varReadable ·) : Bool) = true := by kernel_rfl
theorem restartNil_fact19 : (Tryz.f3.resultTypes.all (fun t => Tryz.prog.readableRec t && decide (t < Tryz.prog.types.size)) : Bool) = true := by kernel_rfl
theorem restartNil_fact20 : ((Rows.restartNilRow.ifacesOut == Tryz.f3.resultTypes.toList.any (Tryz.prog.ifacesRec ·)) : Bool) = true := by kernel_rfl
theorem restartNil_fact21 : ((Rows.restartNilRow.loopsOut == Tryz.f3.resultTypes.toList.any (Tryz.prog.loopsFrom ·)) : Bool) = true := by kernel_rfl
theorem restartNil_fact22 : ((Rows.restartNilRow.plainKeys == Tryz.prog.plainKeys) : Bool) = true := by kernel_rfl
theorem restartNil_fact23 : (Rows.restartNilRow.shortTexts.isNone : Bool) = true := by kernel_rfl
theorem restartNil_fact24 : (Tryz.prog.stopsHeard : Bool) = true := by kernel_rfl
theorem restartNil_fact25 : (Tryz.prog.mayEnter : Bool) = true := by kernel_rfl
theorem restartNil_fact26 : ((Rows.restartNilRow.lifted == Tryz.prog.liftsFinal) : Bool) = true := by kernel_rfl
theorem restartNil_fact27 : ((Tryz.prog.make == some Rows.restartNilRow.make) : Bool) = true := by kernel_rfl
theorem restartNil_fact28 : ((Rows.restartNilRow.kinds == (if Rows.restartNilRow.domain.isEmpty then [] else Tryz.f3.params.toList.map fun t => match Tryz.prog.underlying t with | some (.int k) => some k | _ => none)) : Bool) = true := by kernel_rfl
theorem restartNil_fact29 : ((Rows.restartNilRow.pinned == Rows.restartNilRow.pinnedBy) : Bool) = true := by kernel_rfl
theorem restartNil_fact30 : ((Rows.restartNilRow.veiled == (Tryz.f3.params.toList ++ Rows.restartNilSpec.plain.varTypes Tryz.prog ++ Tryz.f3.resultTypes.toList).any (Tryz.prog.veiledRec ·)) : Bool) = true := by kernel_rfl
theorem restartNil_fact31 : (Rows.restartNilRow.veiledFits Tryz.prog Tryz.f3.params.toList (Tryz.f3.params.toList ++ Rows.restartNilSpec.plain.varTypes Tryz.prog ++ Tryz.f3.resultTypes.toList) : Bool) = true := by kernel_rfl
set_option maxRecDepth 100000 in
theorem restartNil_facts : joinedFacts Tryz.prog 3 Tryz.f3 Rows.restartNilSpec Rows.restartNilRow = true := restartNil_tt (restartNil_tt (restartNil_tt (restartNil_tt (restartNil_tt (restartNil_tt (restartNil_tt (restartNil_tt (restartNil_tt (restartNil_tt (restartNil_tt (restartNil_tt (restartNil_tt (restartNil_tt (restartNil_tt (restartNil_tt (restartNil_tt (restartNil_tt (restartNil_tt (restartNil_tt (restartNil_tt (restartNil_tt (restartNil_tt (restartNil_tt (restartNil_tt (restartNil_tt (restartNil_tt (restartNil_tt (restartNil_tt (restartNil_tt (restartNil_tt restartNil_fact0 laid_out) restartNil_fact2) restartNil_fact3) restartNil_fact4) restartNil_fact5) restartNil_fact6) restartNil_fact7) restartNil_fact8) restartNil_fact9) restartNil_fact10) restartNil_fact11) restartNil_fact12) restartNil_fact13) restartNil_fact14) restartNil_fact15) restartNil_fact16) restartNil_fact17) restartNil_fact18) restartNil_fact19) restartNil_fact20) restartNil_fact21) restartNil_fact22) restartNil_fact23) restartNil_fact24) restartNil_fact25) restartNil_fact26) restartNil_fact27) restartNil_fact28) restartNil_fact29) restartNil_fact30) restartNil_fact31
end Go.Proofs.YtlngdekaipipgaaGreatDoor
