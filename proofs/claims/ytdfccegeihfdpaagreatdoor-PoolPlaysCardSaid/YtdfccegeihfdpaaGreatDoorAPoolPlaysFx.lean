/-
  PoolPlays: the row's closed facts, one by one.
-/
import Derived.Test.YtdfccegeihfdpaaGreatDoorAPost
set_option maxRecDepth 100000
namespace Go.Proofs.YtdfccegeihfdpaaGreatDoor
open Go
theorem poolPlays_tt{a b:Bool}(h:a=true)(k:b=true):(a && b)=true:=by rw[h,k];rfl
theorem poolPlays_fact0:(Rows.poolPlaysRow.wf (OpenSpec.ofChange Rows.poolPlaysSpec):Bool)=true:=by kernel_rfl
theorem poolPlays_fact2:(mapsRowed Tryz.prog:Bool)=true:=by kernel_rfl
theorem poolPlays_fact3:(Tryz.f7.params.all (Tryz.prog.readableRec ·):Bool)=true:=by kernel_rfl
theorem poolPlays_fact4:(namedTie Tryz.prog Rows.poolPlaysRow.named Rows.poolPlaysSpec.vars:Bool)=true:=by kernel_rfl
theorem poolPlays_fact5:((Rows.poolPlaysRow.stops == []):Bool)=true:=by kernel_rfl
theorem poolPlays_fact6:((Tryz.prog.stops == []):Bool)=true:=by kernel_rfl
theorem poolPlays_fact7:((Rows.poolPlaysRow.knobs == []):Bool)=true:=by kernel_rfl
theorem poolPlays_fact8:((Tryz.prog.stopKnobs == []):Bool)=true:=by kernel_rfl
theorem poolPlays_fact9:((Rows.poolPlaysRow.inPlace == Tryz.prog.inPlace 7):Bool)=true:=by kernel_rfl
theorem poolPlays_fact10:((Rows.poolPlaysRow.unfollowed == Tryz.prog.unfollowed 7):Bool)=true:=by kernel_rfl
theorem poolPlays_fact11:((Rows.poolPlaysRow.recurses == Tryz.prog.recurses 7):Bool)=true:=by kernel_rfl
theorem poolPlays_fact12:((Rows.poolPlaysRow.named == Tryz.prog.varsNamed 7):Bool)=true:=by kernel_rfl
theorem poolPlays_fact13:((Rows.poolPlaysRow.maps == (Tryz.f7.params.toList++Rows.poolPlaysSpec.plain.varTypes Tryz.prog).any (Tryz.prog.mapsRec ·)):Bool)=true:=by kernel_rfl
theorem poolPlays_fact14:((Rows.poolPlaysRow.ifaces == (Tryz.f7.params.toList++Rows.poolPlaysSpec.plain.varTypes Tryz.prog).any (Tryz.prog.ifacesRec ·)):Bool)=true:=by kernel_rfl
theorem poolPlays_fact15:((Rows.poolPlaysRow.mapsOut == Tryz.prog.mapsAmong Tryz.f7.resultTypes.toList):Bool)=true:=by kernel_rfl
theorem poolPlays_fact16:((Rows.poolPlaysRow.loops == (Tryz.f7.params.toList++Rows.poolPlaysSpec.plain.varTypes Tryz.prog).any (Tryz.prog.loopsFrom ·)):Bool)=true:=by kernel_rfl
theorem poolPlays_fact17:((Rows.poolPlaysRow.wideKeys == (Tryz.f7.params.toList++Rows.poolPlaysSpec.plain.varTypes Tryz.prog++Tryz.f7.resultTypes.toList).any (Tryz.prog.wideKeysFrom ·)):Bool)=true:=by kernel_rfl
theorem poolPlays_fact18:(Rows.poolPlaysSpec.vars.all (Tryz.prog.varReadable ·):Bool)=true:=by kernel_rfl
theorem poolPlays_fact19:(Tryz.f7.resultTypes.all (fun t=>Tryz.prog.readableRec t && decide (t<Tryz.prog.types.size)):Bool)=true:=by kernel_rfl
theorem poolPlays_fact20:((Rows.poolPlaysRow.ifacesOut == Tryz.f7.resultTypes.toList.any (Tryz.prog.ifacesRec ·)):Bool)=true:=by kernel_rfl
theorem poolPlays_fact21:((Rows.poolPlaysRow.loopsOut == Tryz.f7.resultTypes.toList.any (Tryz.prog.loopsFrom ·)):Bool)=true:=by kernel_rfl
theorem poolPlays_fact22:((Rows.poolPlaysRow.plainKeys == Tryz.prog.plainKeys):Bool)=true:=by kernel_rfl
theorem poolPlays_fact23:(Rows.poolPlaysRow.shortTexts.isNone:Bool)=true:=by kernel_rfl
theorem poolPlays_fact24:(Tryz.prog.stopsHeard:Bool)=true:=by kernel_rfl
theorem poolPlays_fact25:(Tryz.prog.mayEnter:Bool)=true:=by kernel_rfl
theorem poolPlays_fact26:((Rows.poolPlaysRow.lifted == Tryz.prog.liftsFinal):Bool)=true:=by kernel_rfl
theorem poolPlays_fact27:((Tryz.prog.make == some Rows.poolPlaysRow.make):Bool)=true:=by kernel_rfl
theorem poolPlays_fact28:((Rows.poolPlaysRow.kinds == (if Rows.poolPlaysRow.domain.isEmpty then [] else Tryz.f7.params.toList.map fun t=>match Tryz.prog.underlying t with | some (.int k)=>some k | _=>none)):Bool)=true:=by kernel_rfl
theorem poolPlays_fact29:((Rows.poolPlaysRow.pinned == Rows.poolPlaysRow.pinnedBy):Bool)=true:=by kernel_rfl
theorem poolPlays_fact30:((Rows.poolPlaysRow.veiled == (Tryz.f7.params.toList++Rows.poolPlaysSpec.plain.varTypes Tryz.prog++Tryz.f7.resultTypes.toList).any (Tryz.prog.veiledRec ·)):Bool)=true:=by kernel_rfl
theorem poolPlays_fact31:(Rows.poolPlaysRow.veiledFits Tryz.prog Tryz.f7.params.toList (Tryz.f7.params.toList++Rows.poolPlaysSpec.plain.varTypes Tryz.prog++Tryz.f7.resultTypes.toList):Bool)=true:=by kernel_rfl
theorem poolPlays_facts:joinedFacts Tryz.prog 7 Tryz.f7 Rows.poolPlaysSpec Rows.poolPlaysRow=true:=poolPlays_tt (poolPlays_tt (poolPlays_tt (poolPlays_tt (poolPlays_tt (poolPlays_tt (poolPlays_tt (poolPlays_tt (poolPlays_tt (poolPlays_tt (poolPlays_tt (poolPlays_tt (poolPlays_tt (poolPlays_tt (poolPlays_tt (poolPlays_tt (poolPlays_tt (poolPlays_tt (poolPlays_tt (poolPlays_tt (poolPlays_tt (poolPlays_tt (poolPlays_tt (poolPlays_tt (poolPlays_tt (poolPlays_tt (poolPlays_tt (poolPlays_tt (poolPlays_tt (poolPlays_tt (poolPlays_tt poolPlays_fact0 laid_out) poolPlays_fact2) poolPlays_fact3) poolPlays_fact4) poolPlays_fact5) poolPlays_fact6) poolPlays_fact7) poolPlays_fact8) poolPlays_fact9) poolPlays_fact10) poolPlays_fact11) poolPlays_fact12) poolPlays_fact13) poolPlays_fact14) poolPlays_fact15) poolPlays_fact16) poolPlays_fact17) poolPlays_fact18) poolPlays_fact19) poolPlays_fact20) poolPlays_fact21) poolPlays_fact22) poolPlays_fact23) poolPlays_fact24) poolPlays_fact25) poolPlays_fact26) poolPlays_fact27) poolPlays_fact28) poolPlays_fact29) poolPlays_fact30) poolPlays_fact31
end Go.Proofs.YtdfccegeihfdpaaGreatDoor
