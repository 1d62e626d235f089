/-
  WalCrashes: the row's closed facts, one by one.
-/
import Derived.Test.YtljmmkjdlcfkpaaGreatDoorQPost
set_option maxRecDepth 100000
namespace Go.Proofs.YtljmmkjdlcfkpaaGreatDoor
open Go
theorem walCrashes_tt{a b:Bool}(h:a=true)(k:b=true):(a && b)=true:=by rw[h,k];rfl
theorem walCrashes_fact0:(Rows.walCrashesRow.wf (OpenSpec.ofChange Rows.walCrashesSpec):Bool)=true:=by kernel_rfl
theorem walCrashes_fact2:(mapsRowed Tryz.prog:Bool)=true:=by kernel_rfl
theorem walCrashes_fact3:(Tryz.f5.params.all (Tryz.prog.readableRec ·):Bool)=true:=by kernel_rfl
theorem walCrashes_fact4:(namedTie Tryz.prog Rows.walCrashesRow.named Rows.walCrashesSpec.vars:Bool)=true:=by kernel_rfl
theorem walCrashes_fact5:((Rows.walCrashesRow.stops == []):Bool)=true:=by kernel_rfl
theorem walCrashes_fact6:((Tryz.prog.stops == []):Bool)=true:=by kernel_rfl
theorem walCrashes_fact7:((Rows.walCrashesRow.knobs == []):Bool)=true:=by kernel_rfl
theorem walCrashes_fact8:((Tryz.prog.stopKnobs == []):Bool)=true:=by kernel_rfl
theorem walCrashes_fact9:((Rows.walCrashesRow.inPlace == Tryz.prog.inPlace 5):Bool)=true:=by kernel_rfl
theorem walCrashes_fact10:((Rows.walCrashesRow.unfollowed == Tryz.prog.unfollowed 5):Bool)=true:=by kernel_rfl
theorem walCrashes_fact11:((Rows.walCrashesRow.recurses == Tryz.prog.recurses 5):Bool)=true:=by kernel_rfl
theorem walCrashes_fact12:((Rows.walCrashesRow.named == Tryz.prog.varsNamed 5):Bool)=true:=by kernel_rfl
theorem walCrashes_fact13:((Rows.walCrashesRow.maps == (Tryz.f5.params.toList++Rows.walCrashesSpec.plain.varTypes Tryz.prog).any (Tryz.prog.mapsRec ·)):Bool)=true:=by kernel_rfl
theorem walCrashes_fact14:((Rows.walCrashesRow.ifaces == (Tryz.f5.params.toList++Rows.walCrashesSpec.plain.varTypes Tryz.prog).any (Tryz.prog.ifacesRec ·)):Bool)=true:=by kernel_rfl
theorem walCrashes_fact15:((Rows.walCrashesRow.mapsOut == Tryz.prog.mapsAmong Tryz.f5.resultTypes.toList):Bool)=true:=by kernel_rfl
theorem walCrashes_fact16:((Rows.walCrashesRow.loops == (Tryz.f5.params.toList++Rows.walCrashesSpec.plain.varTypes Tryz.prog).any (Tryz.prog.loopsFrom ·)):Bool)=true:=by kernel_rfl
theorem walCrashes_fact17:((Rows.walCrashesRow.wideKeys == (Tryz.f5.params.toList++Rows.walCrashesSpec.plain.varTypes Tryz.prog++Tryz.f5.resultTypes.toList).any (Tryz.prog.wideKeysFrom ·)):Bool)=true:=by kernel_rfl
theorem walCrashes_fact18:(Rows.walCrashesSpec.vars.all (Tryz.prog.varReadable ·):Bool)=true:=by kernel_rfl
theorem walCrashes_fact19:(Tryz.f5.resultTypes.all (fun t=>Tryz.prog.readableRec t && decide (t<Tryz.prog.types.size)):Bool)=true:=by kernel_rfl
theorem walCrashes_fact20:((Rows.walCrashesRow.ifacesOut == Tryz.f5.resultTypes.toList.any (Tryz.prog.ifacesRec ·)):Bool)=true:=by kernel_rfl
theorem walCrashes_fact21:((Rows.walCrashesRow.loopsOut == Tryz.f5.resultTypes.toList.any (Tryz.prog.loopsFrom ·)):Bool)=true:=by kernel_rfl
theorem walCrashes_fact22:((Rows.walCrashesRow.plainKeys == Tryz.prog.plainKeys):Bool)=true:=by kernel_rfl
theorem walCrashes_fact23:(Rows.walCrashesRow.shortTexts.isNone:Bool)=true:=by kernel_rfl
theorem walCrashes_fact24:(Tryz.prog.stopsHeard:Bool)=true:=by kernel_rfl
theorem walCrashes_fact25:(Tryz.prog.mayEnter:Bool)=true:=by kernel_rfl
theorem walCrashes_fact26:((Rows.walCrashesRow.lifted == Tryz.prog.liftsFinal):Bool)=true:=by kernel_rfl
theorem walCrashes_fact27:((Tryz.prog.make == some Rows.walCrashesRow.make):Bool)=true:=by kernel_rfl
theorem walCrashes_fact28:((Rows.walCrashesRow.kinds == (if Rows.walCrashesRow.domain.isEmpty then [] else Tryz.f5.params.toList.map fun t=>match Tryz.prog.underlying t with | some (.int k)=>some k | _=>none)):Bool)=true:=by kernel_rfl
theorem walCrashes_fact29:((Rows.walCrashesRow.pinned == Rows.walCrashesRow.pinnedBy):Bool)=true:=by kernel_rfl
theorem walCrashes_fact30:((Rows.walCrashesRow.veiled == (Tryz.f5.params.toList++Rows.walCrashesSpec.plain.varTypes Tryz.prog++Tryz.f5.resultTypes.toList).any (Tryz.prog.veiledRec ·)):Bool)=true:=by kernel_rfl
theorem walCrashes_fact31:(Rows.walCrashesRow.veiledFits Tryz.prog Tryz.f5.params.toList (Tryz.f5.params.toList++Rows.walCrashesSpec.plain.varTypes Tryz.prog++Tryz.f5.resultTypes.toList):Bool)=true:=by kernel_rfl
theorem walCrashes_facts:joinedFacts Tryz.prog 5 Tryz.f5 Rows.walCrashesSpec Rows.walCrashesRow=true:=walCrashes_tt (walCrashes_tt (walCrashes_tt (walCrashes_tt (walCrashes_tt (walCrashes_tt (walCrashes_tt (walCrashes_tt (walCrashes_tt (walCrashes_tt (walCrashes_tt (walCrashes_tt (walCrashes_tt (walCrashes_tt (walCrashes_tt (walCrashes_tt (walCrashes_tt (walCrashes_tt (walCrashes_tt (walCrashes_tt (walCrashes_tt (walCrashes_tt (walCrashes_tt (walCrashes_tt (walCrashes_tt (walCrashes_tt (walCrashes_tt (walCrashes_tt (walCrashes_tt (walCrashes_tt (walCrashes_tt walCrashes_fact0 laid_out) walCrashes_fact2) walCrashes_fact3) walCrashes_fact4) walCrashes_fact5) walCrashes_fact6) walCrashes_fact7) walCrashes_fact8) walCrashes_fact9) walCrashes_fact10) walCrashes_fact11) walCrashes_fact12) walCrashes_fact13) walCrashes_fact14) walCrashes_fact15) walCrashes_fact16) walCrashes_fact17) walCrashes_fact18) walCrashes_fact19) walCrashes_fact20) walCrashes_fact21) walCrashes_fact22) walCrashes_fact23) walCrashes_fact24) walCrashes_fact25) walCrashes_fact26) walCrashes_fact27) walCrashes_fact28) walCrashes_fact29) walCrashes_fact30) walCrashes_fact31
end Go.Proofs.YtljmmkjdlcfkpaaGreatDoor
