/-
  LoadActs: the row's closed facts, one by one.
-/
import Derived.Test.YtlboobboacjnmaaDoorPost
import Derived.JoinedOf
import Derived.KernelRfl
namespace Go.Proofs.YtlboobboacjnmaaDoor
open Go
theorem loadActs_tt {a b : Bool} (h : a = true) (k : b = true) : (a && b) = true := by rw [h, k]; rfl
theorem loadActs_fact0 : (Rows.loadActsRow.wf (OpenSpec.ofChange Rows.loadActsSpec) : Bool) = true := by kernel_rfl
theorem loadActs_fact2 : (mapsRowed Tryd.prog : Bool) = true := by kernel_rfl
theorem loadActs_fact3 : (Tryd.f3.params.all (Tryd.prog.readableRec ·) : Bool) = true := by kernel_rfl
theorem loadActs_fact4 : (namedTie Tryd.prog Rows.loadActsRow.named Rows.loadActsSpec.vars : Bool) = true := by kernel_rfl
theorem loadActs_fact5 : ((Rows.loadActsRow.stops == []) : Bool) = true := by kernel_rfl
theorem loadActs_fact6 : ((Tryd.prog.stops == []) : Bool) = true := by kernel_rfl
theorem loadActs_fact7 : ((Rows.loadActsRow.knobs == []) : Bool) = true := by kernel_rfl
theorem loadActs_fact8 : ((Tryd.prog.stopKnobs == []) : Bool) = true := by kernel_rfl
theorem loadActs_fact9 : ((Rows.loadActsRow.inPlace == Tryd.prog.inPlace 3) : Bool) = true := by kernel_rfl
theorem loadActs_fact10 : ((Rows.loadActsRow.unfollowed == Tryd.prog.unfollowed 3) : Bool) = true := by kernel_rfl
theorem loadActs_fact11 : ((Rows.loadActsRow.recurses == Tryd.prog.recurses 3) : Bool) = true := by kernel_rfl
theorem loadActs_fact12 : ((Rows.loadActsRow.named == Tryd.prog.varsNamed 3) : Bool) = true := by kernel_rfl
theorem loadActs_fact13 : ((Rows.loadActsRow.maps == (Tryd.f3.params.toList ++ Rows.loadActsSpec.plain.varTypes Tryd.prog).any (Tryd.prog.mapsRec ·)) : Bool) = true := by kernel_rfl
theorem loadActs_fact14 : ((Rows.loadActsRow.ifaces == (Tryd.f3.params.toList ++ Rows.loadActsSpec.plain.varTypes Tryd.prog).any (Tryd.prog.ifacesRec ·)) : Bool) = true := by kernel_rfl
theorem loadActs_fact15 : ((Rows.loadActsRow.mapsOut == Tryd.prog.mapsAmong Tryd.f3.resultTypes.toList) : Bool) = true := by kernel_rfl
theorem loadActs_fact16 : ((Rows.loadActsRow.loops == (Tryd.f3.params.toList ++ Rows.loadActsSpec.plain.varTypes Tryd.prog).any (Tryd.prog.loopsFrom ·)) : Bool) = true := by kernel_rfl
theorem loadActs_fact17 : ((Rows.loadActsRow.wideKeys == (Tryd.f3.params.toList ++ Rows.loadActsSpec.plain.varTypes Tryd.prog ++ Tryd.f3.resultTypes.toList).any (Tryd.prog.wideKeysFrom ·)) : Bool) = true := by kernel_rfl
theorem loadActs_fact18 : (Rows.loadActsSpec.vars.all (Tryd.prog.varReadable ·) : Bool) = true := by kernel_rfl
theorem loadActs_fact19 : (Tryd.f3.resultTypes.all (fun t => Tryd.prog.readableRec t && decide (t < Tryd.prog.types.size)) : Bool) = true := by kernel_rfl
theorem loadActs_fact20 : ((Rows.loadActsRow.ifacesOut == Tryd.f3.resultTypes.toList.any (Tryd.prog.ifacesRec ·)) : Bool) = true := by kernel_rfl
theorem loadActs_fact21 : ((Rows.loadActsRow.loopsOut == Tryd.f3.resultTypes.toList.any (Tryd.prog.loopsFrom ·)) : Bool) = true := by kernel_rfl
theorem loadActs_fact22 : ((Rows.loadActsRow.plainKeys == Tryd.prog.plainKeys) : Bool) = true := by kernel_rfl
theorem loadActs_fact23 : (Rows.loadActsRow.shortTexts.isNone : Bool) = true := by kernel_rfl
theorem loadActs_fact24 : (Tryd.prog.stopsHeard : Bool) = true := by kernel_rfl
theorem loadActs_fact25 : (Tryd.prog.mayEnter : Bool) = true := by kernel_rfl
theorem loadActs_fact26 : ((Rows.loadActsRow.lifted == Tryd.prog.liftsFinal) : Bool) = true := by kernel_rfl
theorem loadActs_fact27 : ((Tryd.prog.make == some Rows.loadActsRow.make) : Bool) = true := by kernel_rfl
theorem loadActs_fact28 : ((Rows.loadActsRow.kinds == (if Rows.loadActsRow.domain.isEmpty then [] else Tryd.f3.params.toList.map fun t => match Tryd.prog.underlying t with | some (.int k) => some k | _ => none)) : Bool) = true := by kernel_rfl
theorem loadActs_fact29 : ((Rows.loadActsRow.pinned == Rows.loadActsRow.pinnedBy) : Bool) = true := by kernel_rfl
theorem loadActs_fact30 : ((Rows.loadActsRow.veiled == (Tryd.f3.params.toList ++ Rows.loadActsSpec.plain.varTypes Tryd.prog ++ Tryd.f3.resultTypes.toList).any (Tryd.prog.veiledRec ·)) : Bool) = true := by kernel_rfl
theorem loadActs_fact31 : (Rows.loadActsRow.veiledFits Tryd.prog Tryd.f3.params.toList (Tryd.f3.params.toList ++ Rows.loadActsSpec.plain.varTypes Tryd.prog ++ Tryd.f3.resultTypes.toList) : Bool) = true := by kernel_rfl
set_option maxRecDepth 100000 in
theorem loadActs_facts : joinedFacts Tryd.prog 3 Tryd.f3 Rows.loadActsSpec Rows.loadActsRow = true := loadActs_tt (loadActs_tt (loadActs_tt (loadActs_tt (loadActs_tt (loadActs_tt (loadActs_tt (loadActs_tt (loadActs_tt (loadActs_tt (loadActs_tt (loadActs_tt (loadActs_tt (loadActs_tt (loadActs_tt (loadActs_tt (loadActs_tt (loadActs_tt (loadActs_tt (loadActs_tt (loadActs_tt (loadActs_tt (loadActs_tt (loadActs_tt (loadActs_tt (loadActs_tt (loadActs_tt (loadActs_tt (loadActs_tt (loadActs_tt (loadActs_tt loadActs_fact0 laid_out) loadActs_fact2) loadActs_fact3) loadActs_fact4) loadActs_fact5) loadActs_fact6) loadActs_fact7) loadActs_fact8) loadActs_fact9) loadActs_fact10) loadActs_fact11) loadActs_fact12) loadActs_fact13) loadActs_fact14) loadActs_fact15) loadActs_fact16) loadActs_fact17) loadActs_fact18) loadActs_fact19) loadActs_fact20) loadActs_fact21) loadActs_fact22) loadActs_fact23) loadActs_fact24) loadActs_fact25) loadActs_fact26) loadActs_fact27) loadActs_fact28) loadActs_fact29) loadActs_fact30) loadActs_fact31
end Go.Proofs.YtlboobboacjnmaaDoor
