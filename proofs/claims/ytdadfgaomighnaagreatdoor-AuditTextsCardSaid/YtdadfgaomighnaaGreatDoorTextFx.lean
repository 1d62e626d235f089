/-
  AuditTexts: the row's closed facts, one by one.
-/
import Derived.Test.YtdadfgaomighnaaGreatDoorPost
import Derived.JoinedOf
import Derived.KernelRfl
namespace Go.Proofs.YtdadfgaomighnaaGreatDoor
open Go
theorem auditTexts_tt {a b : Bool} (h : a = true) (k : b = true) : (a && b) = true := by rw [h, k]; rfl
theorem auditTexts_fact0 : (Rows.auditTextsRow.wf (OpenSpec.ofChange Rows.auditTextsSpec) : Bool) = true := by kernel_rfl
theorem auditTexts_fact2 : (mapsRowed Tryz.prog : Bool) = true := by kernel_rfl
theorem auditTexts_fact3 : (Tryz.f3.params.all (Tryz.prog.readableRec ·) : Bool) = true := by kernel_rfl
theorem auditTexts_fact4 : (namedTie Tryz.prog Rows.auditTextsRow.named Rows.auditTextsSpec.vars : Bool) = true := by kernel_rfl
theorem auditTexts_fact5 : ((Rows.auditTextsRow.stops == []) : Bool) = true := by kernel_rfl
theorem auditTexts_fact6 : ((Tryz.prog.stops == []) : Bool) = true := by kernel_rfl
theorem auditTexts_fact7 : ((Rows.auditTextsRow.knobs == []) : Bool) = true := by kernel_rfl
theorem auditTexts_fact8 : ((Tryz.prog.stopKnobs == []) : Bool) = true := by kernel_rfl
theorem auditTexts_fact9 : ((Rows.auditTextsRow.inPlace == Tryz.prog.inPlace 3) : Bool) = true := by kernel_rfl
theorem auditTexts_fact10 : ((Rows.auditTextsRow.unfollowed == Tryz.prog.unfollowed 3) : Bool) = true := by kernel_rfl
theorem auditTexts_fact11 : ((Rows.auditTextsRow.recurses == Tryz.prog.recurses 3) : Bool) = true := by kernel_rfl
theorem auditTexts_fact12 : ((Rows.auditTextsRow.named == Tryz.prog.varsNamed 3) : Bool) = true := by kernel_rfl
theorem auditTexts_fact13 : ((Rows.auditTextsRow.maps == (Tryz.f3.params.toList ++ Rows.auditTextsSpec.plain.varTypes Tryz.prog).any (Tryz.prog.mapsRec ·)) : Bool) = true := by kernel_rfl
theorem auditTexts_fact14 : ((Rows.auditTextsRow.ifaces == (Tryz.f3.params.toList ++ Rows.auditTextsSpec.plain.varTypes Tryz.prog).any (Tryz.prog.ifacesRec ·)) : Bool) = true := by kernel_rfl
theorem auditTexts_fact15 : ((Rows.auditTextsRow.mapsOut == Tryz.prog.mapsAmong Tryz.f3.resultTypes.toList) : Bool) = true := by kernel_rfl
theorem auditTexts_fact16 : ((Rows.auditTextsRow.loops == (Tryz.f3.params.toList ++ Rows.auditTextsSpec.plain.varTypes Tryz.prog).any (Tryz.prog.loopsFrom ·)) : Bool) = true := by kernel_rfl
theorem auditTexts_fact17 : ((Rows.auditTextsRow.wideKeys == (Tryz.f3.params.toList ++ Rows.auditTextsSpec.plain.varTypes Tryz.prog ++ Tryz.f3.resultTypes.toList).any (Tryz.prog.wideKeysFrom ·)) : Bool) = true := by kernel_rfl
theorem auditTexts_fact18 : (Rows.auditTextsSpec.vars.all (Tryz.prog.varReadable ·) : Bool) = true := by kernel_rfl
theorem auditTexts_fact19 : (Tryz.f3.resultTypes.all (fun t => Tryz.prog.readableRec t && decide (t < Tryz.prog.types.size)) : Bool) = true := by kernel_rfl
theorem auditTexts_fact20 : ((Rows.auditTextsRow.ifacesOut == Tryz.f3.resultTypes.toList.any (Tryz.prog.ifacesRec ·)) : Bool) = true := by kernel_rfl
theorem auditTexts_fact21 : ((Rows.auditTextsRow.loopsOut == Tryz.f3.resultTypes.toList.any (Tryz.prog.loopsFrom ·)) : Bool) = true := by kernel_rfl
theorem auditTexts_fact22 : ((Rows.auditTextsRow.plainKeys == Tryz.prog.plainKeys) : Bool) = true := by kernel_rfl
theorem auditTexts_fact23 : (Rows.auditTextsRow.shortTexts.isNone : Bool) = true := by kernel_rfl
theorem auditTexts_fact24 : (Tryz.prog.stopsHeard : Bool) = true := by kernel_rfl
theorem auditTexts_fact25 : (Tryz.prog.mayEnter : Bool) = true := by kernel_rfl
theorem auditTexts_fact26 : ((Rows.auditTextsRow.lifted == Tryz.prog.liftsFinal) : Bool) = true := by kernel_rfl
theorem auditTexts_fact27 : ((Tryz.prog.make == some Rows.auditTextsRow.make) : Bool) = true := by kernel_rfl
theorem auditTexts_fact28 : ((Rows.auditTextsRow.kinds == (if Rows.auditTextsRow.domain.isEmpty then [] else Tryz.f3.params.toList.map fun t => match Tryz.prog.underlying t with | some (.int k) => some k | _ => none)) : Bool) = true := by kernel_rfl
theorem auditTexts_fact29 : ((Rows.auditTextsRow.pinned == Rows.auditTextsRow.pinnedBy) : Bool) = true := by kernel_rfl
theorem auditTexts_fact30 : ((Rows.auditTextsRow.veiled == (Tryz.f3.params.toList ++ Rows.auditTextsSpec.plain.varTypes Tryz.prog ++ Tryz.f3.resultTypes.toList).any (Tryz.prog.veiledRec ·)) : Bool) = true := by kernel_rfl
theorem auditTexts_fact31 : (Rows.auditTextsRow.veiledFits Tryz.prog Tryz.f3.params.toList (Tryz.f3.params.toList ++ Rows.auditTextsSpec.plain.varTypes Tryz.prog ++ Tryz.f3.resultTypes.toList) : Bool) = true := by kernel_rfl
set_option maxRecDepth 100000 in
theorem auditTexts_facts : joinedFacts Tryz.prog 3 Tryz.f3 Rows.auditTextsSpec Rows.auditTextsRow = true := auditTexts_tt (auditTexts_tt (auditTexts_tt (auditTexts_tt (auditTexts_tt (auditTexts_tt (auditTexts_tt (auditTexts_tt (auditTexts_tt (auditTexts_tt (auditTexts_tt (auditTexts_tt (auditTexts_tt (auditTexts_tt (auditTexts_tt (auditTexts_tt (auditTexts_tt (auditTexts_tt (auditTexts_tt (auditTexts_tt (auditTexts_tt (auditTexts_tt (auditTexts_tt (auditTexts_tt (auditTexts_tt (auditTexts_tt (auditTexts_tt (auditTexts_tt (auditTexts_tt (auditTexts_tt (auditTexts_tt auditTexts_fact0 laid_out) auditTexts_fact2) auditTexts_fact3) auditTexts_fact4) auditTexts_fact5) auditTexts_fact6) auditTexts_fact7) auditTexts_fact8) auditTexts_fact9) auditTexts_fact10) auditTexts_fact11) auditTexts_fact12) auditTexts_fact13) auditTexts_fact14) auditTexts_fact15) auditTexts_fact16) auditTexts_fact17) auditTexts_fact18) auditTexts_fact19) auditTexts_fact20) auditTexts_fact21) auditTexts_fact22) auditTexts_fact23) auditTexts_fact24) auditTexts_fact25) auditTexts_fact26) auditTexts_fact27) auditTexts_fact28) auditTexts_fact29) auditTexts_fact30) auditTexts_fact31
end Go.Proofs.YtdadfgaomighnaaGreatDoor
