/-
  PoolAhead: the row's closed facts, one by one.
-/
import Derived.Test.YtdfccegeihfdpaaGreatDoorAPost
set_option maxRecDepth 100000
namespace Go.Proofs.YtdfccegeihfdpaaGreatDoor
open Go
theorem poolAhead_tt{a b:Bool}(h:a=true)(k:b=true):(a && b)=true:=by rw[h,k];rfl
theorem poolAhead_fact0:(Rows.poolAheadRow.wf (OpenSpec.ofChange Rows.poolAheadSpec):Bool)=true:=by kernel_rfl
theorem poolAhead_fact2:(mapsRowed Tryz.prog:Bool)=true:=by kernel_rfl
theorem poolAhead_fact3:(Tryz.f6.params.all (Tryz.prog.readableRec ·):Bool)=true:=by kernel_rfl
theorem poolAhead_fact4:(namedTie Tryz.prog Rows.poolAheadRow.named Rows.poolAheadSpec.vars:Bool)=true:=by kernel_rfl
theorem poolAhead_fact5:((Rows.poolAheadRow.stops == []):Bool)=true:=by kernel_rfl
theorem poolAhead_fact6:((Tryz.prog.stops == []):Bool)=true:=by kernel_rfl
theorem poolAhead_fact7:((Rows.poolAheadRow.knobs == []):Bool)=true:=by kernel_rfl
theorem poolAhead_fact8:((Tryz.prog.stopKnobs == []):Bool)=true:=by kernel_rfl
theorem poolAhead_fact9:((Rows.poolAheadRow.inPlace == Tryz.prog.inPlace 6):Bool)=true:=by kernel_rfl
theorem poolAhead_fact10:((Rows.poolAheadRow.unfollowed == Tryz.prog.unfollowed 6):Bool)=true:=by kernel_rfl
theorem poolAhead_fact11:((Rows.poolAheadRow.recurses == Tryz.prog.recurses 6):Bool)=true:=by kernel_rfl
theorem poolAhead_fact12:((Rows.poolAheadRow.named == Tryz.prog.varsNamed 6):Bool)=true:=by kernel_rfl
theorem poolAhead_fact13:((Rows.poolAheadRow.maps == (Tryz.f6.params.toList++Rows.poolAheadSpec.plain.varTypes Tryz.prog).any (Tryz.prog.mapsRec ·)):Bool)=true:=by kernel_rfl
theorem poolAhead_fact14:((Rows.poolAheadRow.ifaces == (Tryz.f6.params.toList++Rows.poolAheadSpec.plain.varTypes Tryz.prog).any (Tryz.prog.ifacesRec ·)):Bool)=true:=by kernel_rfl
theorem poolAhead_fact15:((Rows.poolAheadRow.mapsOut == Tryz.prog.mapsAmong Tryz.f6.resultTypes.toList):Bool)=true:=by kernel_rfl
theorem poolAhead_fact16:((Rows.poolAheadRow.loops == (Tryz.f6.params.toList++Rows.poolAheadSpec.plain.varTypes Tryz.prog).any (Tryz.prog.loopsFrom ·)):Bool)=true:=by kernel_rfl
theorem poolAhead_fact17:((Rows.poolAheadRow.wideKeys == (Tryz.f6.params.toList++Rows.poolAheadSpec.plain.varTypes Tryz.prog++Tryz.f6.resultTypes.toList).any (Tryz.prog.wideKeysFrom ·)):Bool)=true:=by kernel_rfl
theorem poolAhead_fact18:(Rows.poolAheadSpec.vars.all (Tryz.prog.varReadable ·):Bool)=true:=by kernel_rfl
theorem poolAhead_fact19:(Tryz.f6.resultTypes.all (fun t=>Tryz.prog.readableRec t && decide (t<Tryz.prog.types.size)):Bool)=true:=by kernel_rfl
theorem poolAhead_fact20:((Rows.poolAheadRow.ifacesOut == Tryz.f6.resultTypes.toList.any (Tryz.prog.ifacesRec ·)):Bool)=true:=by kernel_rfl
theorem poolAhead_fact21:((Rows.poolAheadRow.loopsOut == Tryz.f6.resultTypes.toList.any (Tryz.prog.loopsFrom ·)):Bool)=true:=by kernel_rfl
theorem poolAhead_fact22:((Rows.poolAheadRow.plainKeys == Tryz.prog.plainKeys):Bool)=true:=by kernel_rfl
theorem poolAhead_fact23:(Rows.poolAheadRow.shortTexts.isNone:Bool)=true:=by kernel_rfl
theorem poolAhead_fact24:(Tryz.prog.stopsHeard:Bool)=true:=by kernel_rfl
theorem poolAhead_fact25:(Tryz.prog.mayEnter:Bool)=true:=by kernel_rfl
theorem poolAhead_fact26:((Rows.poolAheadRow.lifted == Tryz.prog.liftsFinal):Bool)=true:=by kernel_rfl
theorem poolAhead_fact27:((Tryz.prog.make == some Rows.poolAheadRow.make):Bool)=true:=by kernel_rfl
theorem poolAhead_fact28:((Rows.poolAheadRow.kinds == (if Rows.poolAheadRow.domain.isEmpty then [] else Tryz.f6.params.toList.map fun t=>match Tryz.prog.underlying t with | some (.int k)=>some k | _=>none)):Bool)=true:=by kernel_rfl
theorem poolAhead_fact29:((Rows.poolAheadRow.pinned == Rows.poolAheadRow.pinnedBy):Bool)=true:=by kernel_rfl
theorem poolAhead_fact30:((Rows.poolAheadRow.veiled == (Tryz.f6.params.toList++Rows.poolAheadSpec.plain.varTypes Tryz.prog++Tryz.f6.resultTypes.toList).any (Tryz.prog.veiledRec ·)):Bool)=true:=by kernel_rfl
theorem poolAhead_fact31:(Rows.poolAheadRow.veiledFits Tryz.prog Tryz.f6.params.toList (Tryz.f6.params.toList++Rows.poolAheadSpec.plain.varTypes Tryz.prog++Tryz.f6.resultTypes.toList):Bool)=true:=by kernel_rfl
theorem poolAhead_facts:joinedFacts Tryz.prog 6 Tryz.f6 Rows.poolAheadSpec Rows.poolAheadRow=true:=poolAhead_tt (poolAhead_tt (poolAhead_tt (poolAhead_tt (poolAhead_tt (poolAhead_tt (poolAhead_tt (poolAhead_tt (poolAhead_tt (poolAhead_tt (poolAhead_tt (poolAhead_tt (poolAhead_tt (poolAhead_tt (poolAhead_tt (poolAhead_tt (poolAhead_tt (poolAhead_tt (poolAhead_tt (poolAhead_tt (poolAhead_tt (poolAhead_tt (poolAhead_tt (poolAhead_tt (poolAhead_tt (poolAhead_tt (poolAhead_tt (poolAhead_tt (poolAhead_tt (poolAhead_tt (poolAhead_tt poolAhead_fact0 laid_out) poolAhead_fact2) poolAhead_fact3) poolAhead_fact4) poolAhead_fact5) poolAhead_fact6) poolAhead_fact7) poolAhead_fact8) poolAhead_fact9) poolAhead_fact10) poolAhead_fact11) poolAhead_fact12) poolAhead_fact13) poolAhead_fact14) poolAhead_fact15) poolAhead_fact16) poolAhead_fact17) poolAhead_fact18) poolAhead_fact19) poolAhead_fact20) poolAhead_fact21) poolAhead_fact22) poolAhead_fact23) poolAhead_fact24) poolAhead_fact25) poolAhead_fact26) poolAhead_fact27) poolAhead_fact28) poolAhead_fact29) poolAhead_fact30) poolAhead_fact31
end Go.Proofs.YtdfccegeihfdpaaGreatDoor
