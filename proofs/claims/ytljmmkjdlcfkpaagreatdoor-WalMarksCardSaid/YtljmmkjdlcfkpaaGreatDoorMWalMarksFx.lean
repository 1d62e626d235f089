/-
  WalMarks: the row's closed facts, one by one.
-/
import Derived.Test.YtljmmkjdlcfkpaaGreatDoorMPost
set_option maxRecDepth 100000
namespace Go.Proofs.YtljmmkjdlcfkpaaGreatDoor
open Go
theorem walMarks_tt{a b:Bool}(h:a=true)(k:b=true):(a && b)=true:=by rw[h,k];rfl
theorem walMarks_fact0:(Rows.walMarksRow.wf (OpenSpec.ofChange Rows.walMarksSpec):Bool)=true:=by kernel_rfl
theorem walMarks_fact2:(mapsRowed Tryz.prog:Bool)=true:=by kernel_rfl
theorem walMarks_fact3:(Tryz.f6.params.all (Tryz.prog.readableRec ·):Bool)=true:=by kernel_rfl
theorem walMarks_fact4:(namedTie Tryz.prog Rows.walMarksRow.named Rows.walMarksSpec.vars:Bool)=true:=by kernel_rfl
theorem walMarks_fact5:((Rows.walMarksRow.stops == []):Bool)=true:=by kernel_rfl
theorem walMarks_fact6:((Tryz.prog.stops == []):Bool)=true:=by kernel_rfl
theorem walMarks_fact7:((Rows.walMarksRow.knobs == []):Bool)=true:=by kernel_rfl
theorem walMarks_fact8:((Tryz.prog.stopKnobs == []):Bool)=true:=by kernel_rfl
theorem walMarks_fact9:((Rows.walMarksRow.inPlace == Tryz.prog.inPlace 6):Bool)=true:=by kernel_rfl
theorem walMarks_fact10:((Rows.walMarksRow.unfollowed == Tryz.prog.unfollowed 6):Bool)=true:=by kernel_rfl
theorem walMarks_fact11:((Rows.walMarksRow.recurses == Tryz.prog.recurses 6):Bool)=true:=by kernel_rfl
theorem walMarks_fact12:((Rows.walMarksRow.named == Tryz.prog.varsNamed 6):Bool)=true:=by kernel_rfl
theorem walMarks_fact13:((Rows.walMarksRow.maps == (Tryz.f6.params.toList++Rows.walMarksSpec.plain.varTypes Tryz.prog).any (Tryz.prog.mapsRec ·)):Bool)=true:=by kernel_rfl
theorem walMarks_fact14:((Rows.walMarksRow.ifaces == (Tryz.f6.params.toList++Rows.walMarksSpec.plain.varTypes Tryz.prog).any (Tryz.prog.ifacesRec ·)):Bool)=true:=by kernel_rfl
theorem walMarks_fact15:((Rows.walMarksRow.mapsOut == Tryz.prog.mapsAmong Tryz.f6.resultTypes.toList):Bool)=true:=by kernel_rfl
theorem walMarks_fact16:((Rows.walMarksRow.loops == (Tryz.f6.params.toList++Rows.walMarksSpec.plain.varTypes Tryz.prog).any (Tryz.prog.loopsFrom ·)):Bool)=true:=by kernel_rfl
theorem walMarks_fact17:((Rows.walMarksRow.wideKeys == (Tryz.f6.params.toList++Rows.walMarksSpec.plain.varTypes Tryz.prog++Tryz.f6.resultTypes.toList).any (Tryz.prog.wideKeysFrom ·)):Bool)=true:=by kernel_rfl
theorem walMarks_fact18:(Rows.walMarksSpec.vars.all (Tryz.prog.varReadable ·):Bool)=true:=by kernel_rfl
theorem walMarks_fact19:(Tryz.f6.resultTypes.all (fun t=>Tryz.prog.readableRec t && decide (t<Tryz.prog.types.size)):Bool)=true:=by kernel_rfl
theorem walMarks_fact20:((Rows.walMarksRow.ifacesOut == Tryz.f6.resultTypes.toList.any (Tryz.prog.ifacesRec ·)):Bool)=true:=by kernel_rfl
theorem walMarks_fact21:((Rows.walMarksRow.loopsOut == Tryz.f6.resultTypes.toList.any (Tryz.prog.loopsFrom ·)):Bool)=true:=by kernel_rfl
theorem walMarks_fact22:((Rows.walMarksRow.plainKeys == Tryz.prog.plainKeys):Bool)=true:=by kernel_rfl
theorem walMarks_fact23:(Rows.walMarksRow.shortTexts.isNone:Bool)=true:=by kernel_rfl
theorem walMarks_fact24:(Tryz.prog.stopsHeard:Bool)=true:=by kernel_rfl
theorem walMarks_fact25:(Tryz.prog.mayEnter:Bool)=true:=by kernel_rfl
theorem walMarks_fact26:((Rows.walMarksRow.lifted == Tryz.prog.liftsFinal):Bool)=true:=by kernel_rfl
theorem walMarks_fact27:((Tryz.prog.make == some Rows.walMarksRow.make):Bool)=true:=by kernel_rfl
theorem walMarks_fact28:((Rows.walMarksRow.kinds == (if Rows.walMarksRow.domain.isEmpty then [] else Tryz.f6.params.toList.map fun t=>match Tryz.prog.underlying t with | some (.int k)=>some k | _=>none)):Bool)=true:=by kernel_rfl
theorem walMarks_fact29:((Rows.walMarksRow.pinned == Rows.walMarksRow.pinnedBy):Bool)=true:=by kernel_rfl
theorem walMarks_fact30:((Rows.walMarksRow.veiled == (Tryz.f6.params.toList++Rows.walMarksSpec.plain.varTypes Tryz.prog++Tryz.f6.resultTypes.toList).any (Tryz.prog.veiledRec ·)):Bool)=true:=by kernel_rfl
theorem walMarks_fact31:(Rows.walMarksRow.veiledFits Tryz.prog Tryz.f6.params.toList (Tryz.f6.params.toList++Rows.walMarksSpec.plain.varTypes Tryz.prog++Tryz.f6.resultTypes.toList):Bool)=true:=by kernel_rfl
theorem walMarks_facts:joinedFacts Tryz.prog 6 Tryz.f6 Rows.walMarksSpec Rows.walMarksRow=true:=walMarks_tt (walMarks_tt (walMarks_tt (walMarks_tt (walMarks_tt (walMarks_tt (walMarks_tt (walMarks_tt (walMarks_tt (walMarks_tt (walMarks_tt (walMarks_tt (walMarks_tt (walMarks_tt (walMarks_tt (walMarks_tt (walMarks_tt (walMarks_tt (walMarks_tt (walMarks_tt (walMarks_tt (walMarks_tt (walMarks_tt (walMarks_tt (walMarks_tt (walMarks_tt (walMarks_tt (walMarks_tt (walMarks_tt (walMarks_tt (walMarks_tt walMarks_fact0 laid_out) walMarks_fact2) walMarks_fact3) walMarks_fact4) walMarks_fact5) walMarks_fact6) walMarks_fact7) walMarks_fact8) walMarks_fact9) walMarks_fact10) walMarks_fact11) walMarks_fact12) walMarks_fact13) walMarks_fact14) walMarks_fact15) walMarks_fact16) walMarks_fact17) walMarks_fact18) walMarks_fact19) walMarks_fact20) walMarks_fact21) walMarks_fact22) walMarks_fact23) walMarks_fact24) walMarks_fact25) walMarks_fact26) walMarks_fact27) walMarks_fact28) walMarks_fact29) walMarks_fact30) walMarks_fact31
end Go.Proofs.YtljmmkjdlcfkpaaGreatDoor
