/-
  AuditNil: the row's closed facts, one by one.
-/
import Derived.Test.YtekflbnfagldcaaGreatDoorPost
import Derived.JoinedOf
import Derived.KernelRfl
namespace Go.Proofs.YtekflbnfagldcaaGreatDoor
open Go
theorem auditNil_tt {a b : Bool} (h : a = true) (k : b = true) : (a && b) = true := by rw [h, k]; rfl
theorem auditNil_fact0 : (Rows.auditNilRow.wf (OpenSpec.ofChange Rows.auditNilSpec) : Bool) = true := by kernel_rfl
theorem auditNil_fact2 : (mapsRowed Tryz.prog : Bool) = true := by kernel_rfl
theorem auditNil_fact3 : (Tryz.f3.params.all (Tryz.prog.readableRec ·) : Bool) = true := by kernel_rfl
theorem auditNil_fact4 : (namedTie Tryz.prog Rows.auditNilRow.named Rows.auditNilSpec.vars : Bool) = true := by kernel_rfl
theorem auditNil_fact5 : ((Rows.auditNilRow.stops == []) : Bool) = true := by kernel_rfl
theorem auditNil_fact6 : ((Tryz.prog.stops == []) : Bool) = true := by kernel_rfl
theorem auditNil_fact7 : ((Rows.auditNilRow.knobs == []) : Bool) = true := by kernel_rfl
theorem auditNil_fact8 : ((Tryz.prog.stopKnobs == []) : Bool) = true := by kernel_rfl
theorem auditNil_fact9 : ((Rows.auditNilRow.inPlace == Tryz.prog.inPlace 3) : Bool) = true := by kernel_rfl
theorem auditNil_fact10 : ((Rows.auditNilRow.unfollowed == Tryz.prog.unfollowed 3) : Bool) = true := by kernel_rfl
theorem auditNil_fact11 : ((Rows.auditNilRow.recurses == Tryz.prog.recurses 3) : Bool) = true := by kernel_rfl
theorem auditNil_fact12 : ((Rows.auditNilRow.named == Tryz.prog.varsNamed 3) : Bool) = true := by kernel_rfl
theorem auditNil_fact13 : ((Rows.auditNilRow.maps == (Tryz.f3.params.toList ++ Rows.auditNilSpec.plain.varTypes Tryz.prog).any (Tryz.prog.mapsRec ·)) : Bool) = true := by kernel_rfl
theorem auditNil_fact14 : ((Rows.auditNilRow.ifaces == (Tryz.f3.params.toList ++ Rows.auditNilSpec.plain.varTypes Tryz.prog).any (Tryz.prog.ifacesRec ·)) : Bool) = true := by kernel_rfl
theorem auditNil_fact15 : ((Rows.auditNilRow.mapsOut == Tryz.prog.mapsAmong Tryz.f3.resultTypes.toList) : Bool) = true := by kernel_rfl
theorem auditNil_fact16 : ((Rows.auditNilRow.loops == (Tryz.f3.params.toList ++ Rows.auditNilSpec.plain.varTypes Tryz.prog).any (Tryz.prog.loopsFrom ·)) : Bool) = true := by kernel_rfl
theorem auditNil_fact17 : ((Rows.auditNilRow.wideKeys == (Tryz.f3.params.toList ++ Rows.auditNilSpec.plain.varTypes Tryz.prog ++ Tryz.f3.resultTypes.toList).any (Tryz.prog.wideKeysFrom ·)) : Bool) = true := by kernel_rfl
theorem auditNil_fact18 : (Rows.auditNilSpec.vars.all (Tryz.prog.varReadable ·) : Bool) = true := by kernel_rfl
theorem auditNil_fact19 : (Tryz.f3.resultTypes.all (fun t => Tryz.prog.readableRec t && decide (t < Tryz.prog.types.size)) : Bool) = true := by kernel_rfl
theorem auditNil_fact20 : ((Rows.auditNilRow.ifacesOut == Tryz.f3.resultTypes.toList.any (Tryz.prog.ifacesRec ·)) : Bool) = true := by kernel_rfl
theorem auditNil_fact21 : ((Rows.auditNilRow.loopsOut == Tryz.f3.resultTypes.toList.any (Tryz.prog.loopsFrom ·)) : Bool) = true := by kernel_rfl
theorem auditNil_fact22 : ((Rows.auditNilRow.plainKeys == Tryz.prog.plainKeys) : Bool) = true := by kernel_rfl
theorem auditNil_fact23 : (Rows.auditNilRow.shortTexts.isNone : Bool) = true := by kernel_rfl
theorem auditNil_fact24 : (Tryz.prog.stopsHeard : Bool) = true := by kernel_rfl
theorem auditNil_fact25 : (Tryz.prog.mayEnter : Bool) = true := by kernel_rfl
theorem auditNil_fact26 : ((Rows.auditNilRow.lifted == Tryz.prog.liftsFinal) : Bool) = true := by kernel_rfl
theorem auditNil_fact27 : ((Tryz.prog.make == some Rows.auditNilRow.make) : Bool) = true := by kernel_rfl
theorem auditNil_fact28 : ((Rows.auditNilRow.kinds == (if Rows.auditNilRow.domain.isEmpty then [] else Tryz.f3.params.toList.map fun t => match Tryz.prog.underlying t with | some (.int k) => some k | _ => none)) : Bool) = true := by kernel_rfl
theorem auditNil_fact29 : ((Rows.auditNilRow.pinned == Rows.auditNilRow.pinnedBy) : Bool) = true := by kernel_rfl
theorem auditNil_fact30 : ((Rows.auditNilRow.veiled == (Tryz.f3.params.toList ++ Rows.auditNilSpec.plain.varTypes Tryz.prog ++ Tryz.f3.resultTypes.toList).any (Tryz.prog.veiledRec ·)) : Bool) = true := by kernel_rfl
theorem auditNil_fact31 : (Rows.auditNilRow.veiledFits Tryz.prog Tryz.f3.params.toList (Tryz.f3.params.toList ++ Rows.auditNilSpec.plain.varTypes Tryz.prog ++ Tryz.f3.resultTypes.toList) : Bool) = true := by kernel_rfl
set_option maxRecDepth 100000 in
theorem auditNil_facts : joinedFacts Tryz.prog 3 Tryz.f3 Rows.auditNilSpec Rows.auditNilRow = true := auditNil_tt (auditNil_tt (auditNil_tt (auditNil_tt (auditNil_tt (auditNil_tt (auditNil_tt (auditNil_tt (auditNil_tt (auditNil_tt (auditNil_tt (auditNil_tt (auditNil_tt (auditNil_tt (auditNil_tt (auditNil_tt (auditNil_tt (auditNil_tt (auditNil_tt (auditNil_tt (auditNil_tt (auditNil_tt (auditNil_tt (auditNil_tt (auditNil_tt (auditNil_tt (auditNil_tt (auditNil_tt (auditNil_tt (auditNil_tt (auditNil_tt auditNil_fact0 laid_out) auditNil_fact2) auditNil_fact3) auditNil_fact4) auditNil_fact5) auditNil_fact6) auditNil_fact7) auditNil_fact8) auditNil_fact9) auditNil_fact10) auditNil_fact11) auditNil_fact12) auditNil_fact13) auditNil_fact14) auditNil_fact15) auditNil_fact16) auditNil_fact17) auditNil_fact18) auditNil_fact19) auditNil_fact20) auditNil_fact21) auditNil_fact22) auditNil_fact23) auditNil_fact24) auditNil_fact25) auditNil_fact26) auditNil_fact27) auditNil_fact28) auditNil_fact29) auditNil_fact30) auditNil_fact31
end Go.Proofs.YtekflbnfagldcaaGreatDoor
