/-
  PoolFrames: the row's closed facts, one by one.
-/
import Derived.Test.YtdfccegeihfdpaaGreatDoorPost
import Derived.JoinedOf
import Derived.KernelRfl
namespace Go.Proofs.YtdfccegeihfdpaaGreatDoor
open Go
theorem poolFrames_tt {a b : Bool} (h : a = true) (k : b = true) : (a && b) = true := by rw [h, k]; rfl
theorem poolFrames_fact0 : (Rows.poolFramesRow.wf (OpenSpec.ofChange Rows.poolFramesSpec) : Bool) = true := by kernel_rfl
theorem poolFrames_fact2 : (mapsRowed Tryz.prog : Bool) = true := by kernel_rfl
theorem poolFrames_fact3 : (Tryz.f5.params.all (Tryz.prog.readableRec ·) : Bool) = true := by kernel_rfl
theorem poolFrames_fact4 : (namedTie Tryz.prog Rows.poolFramesRow.named Rows.poolFramesSpec.vars : Bool) = true := by kernel_rfl
theorem poolFrames_fact5 : ((Rows.poolFramesRow.stops == []) : Bool) = true := by kernel_rfl
theorem poolFrames_fact6 : ((Tryz.prog.stops == []) : Bool) = true := by kernel_rfl
theorem poolFrames_fact7 : ((Rows.poolFramesRow.knobs == []) : Bool) = true := by kernel_rfl
theorem poolFrames_fact8 : ((Tryz.prog.stopKnobs == []) : Bool) = true := by kernel_rfl
theorem poolFrames_fact9 : ((Rows.poolFramesRow.inPlace == Tryz.prog.inPlace 5) : Bool) = true := by kernel_rfl
theorem poolFrames_fact10 : ((Rows.poolFramesRow.unfollowed == Tryz.prog.unfollowed 5) : Bool) = true := by kernel_rfl
theorem poolFrames_fact11 : ((Rows.poolFramesRow.recurses == Tryz.prog.recurses 5) : Bool) = true := by kernel_rfl
theorem poolFrames_fact12 : ((Rows.poolFramesRow.named == Tryz.prog.varsNamed 5) : Bool) = true := by kernel_rfl
theorem poolFrames_fact13 : ((Rows.poolFramesRow.maps == (Tryz.f5.params.toList ++ Rows.poolFramesSpec.plain.varTypes Tryz.prog).any (Tryz.prog.mapsRec ·)) : Bool) = true := by kernel_rfl
theorem poolFrames_fact14 : ((Rows.poolFramesRow.ifaces == (Tryz.f5.params.toList ++ Rows.poolFramesSpec.plain.varTypes Tryz.prog).any (Tryz.prog.ifacesRec ·)) : Bool) = true := by kernel_rfl
theorem poolFrames_fact15 : ((Rows.poolFramesRow.mapsOut == Tryz.prog.mapsAmong Tryz.f5.resultTypes.toList) : Bool) = true := by kernel_rfl
theorem poolFrames_fact16 : ((Rows.poolFramesRow.loops == (Tryz.f5.params.toList ++ Rows.poolFramesSpec.plain.varTypes Tryz.prog).any (Tryz.prog.loopsFrom ·)) : Bool) = true := by kernel_rfl
theorem poolFrames_fact17 : ((Rows.poolFramesRow.wideKeys == (Tryz.f5.params.toList ++ Rows.poolFramesSpec.plain.varTypes Tryz.prog ++ Tryz.f5.resultTypes.toList).any (Tryz.prog.wideKeysFrom ·)) : Bool) = true := by kernel_rfl
theorem poolFrames_fact18 : (Rows.poolFramesSpec.vars.all (Tryz.prog.varReadable ·) : Bool) = true := by kernel_rfl
theorem poolFrames_fact19 : (Tryz.f5.resultTypes.all (fun t => Tryz.prog.readableRec t && decide (t < Tryz.prog.types.size)) : Bool) = true := by kernel_rfl
theorem poolFrames_fact20 : ((Rows.poolFramesRow.ifacesOut == Tryz.f5.resultTypes.toList.any (Tryz.prog.ifacesRec ·)) : Bool) = true := by kernel_rfl
theorem poolFrames_fact21 : ((Rows.poolFramesRow.loopsOut == Tryz.f5.resultTypes.toList.any (Tryz.prog.loopsFrom ·)) : Bool) = true := by kernel_rfl
theorem poolFrames_fact22 : ((Rows.poolFramesRow.plainKeys == Tryz.prog.plainKeys) : Bool) = true := by kernel_rfl
theorem poolFrames_fact23 : (Rows.poolFramesRow.shortTexts.isNone : Bool) = true := by kernel_rfl
theorem poolFrames_fact24 : (Tryz.prog.stopsHeard : Bool) = true := by kernel_rfl
theorem poolFrames_fact25 : (Tryz.prog.mayEnter : Bool) = true := by kernel_rfl
theorem poolFrames_fact26 : ((Rows.poolFramesRow.lifted == Tryz.prog.liftsFinal) : Bool) = true := by kernel_rfl
theorem poolFrames_fact27 : ((Tryz.prog.make == some Rows.poolFramesRow.make) : Bool) = true := by kernel_rfl
theorem poolFrames_fact28 : ((Rows.poolFramesRow.kinds == (if Rows.poolFramesRow.domain.isEmpty then [] else Tryz.f5.params.toList.map fun t => match Tryz.prog.underlying t with | some (.int k) => some k | _ => none)) : Bool) = true := by kernel_rfl
theorem poolFrames_fact29 : ((Rows.poolFramesRow.pinned == Rows.poolFramesRow.pinnedBy) : Bool) = true := by kernel_rfl
theorem poolFrames_fact30 : ((Rows.poolFramesRow.veiled == (Tryz.f5.params.toList ++ Rows.poolFramesSpec.plain.varTypes Tryz.prog ++ Tryz.f5.resultTypes.toList).any (Tryz.prog.veiledRec ·)) : Bool) = true := by kernel_rfl
theorem poolFrames_fact31 : (Rows.poolFramesRow.veiledFits Tryz.prog Tryz.f5.params.toList (Tryz.f5.params.toList ++ Rows.poolFramesSpec.plain.varTypes Tryz.prog ++ Tryz.f5.resultTypes.toList) : Bool) = true := by kernel_rfl
set_option maxRecDepth 100000 in
theorem poolFrames_facts : joinedFacts Tryz.prog 5 Tryz.f5 Rows.poolFramesSpec Rows.poolFramesRow = true := poolFrames_tt (poolFrames_tt (poolFrames_tt (poolFrames_tt (poolFrames_tt (poolFrames_tt (poolFrames_tt (poolFrames_tt (poolFrames_tt (poolFrames_tt (poolFrames_tt (poolFrames_tt (poolFrames_tt (poolFrames_tt (poolFrames_tt (poolFrames_tt (poolFrames_tt (poolFrames_tt (poolFrames_tt (poolFrames_tt (poolFrames_tt (poolFrames_tt (poolFrames_tt (poolFrames_tt (poolFrames_tt (poolFrames_tt (poolFrames_tt (poolFrames_tt (poolFrames_tt (poolFrames_tt (poolFrames_tt poolFrames_fact0 laid_out) poolFrames_fact2) poolFrames_fact3) poolFrames_fact4) poolFrames_fact5) poolFrames_fact6) poolFrames_fact7) poolFrames_fact8) poolFrames_fact9) poolFrames_fact10) poolFrames_fact11) poolFrames_fact12) poolFrames_fact13) poolFrames_fact14) poolFrames_fact15) poolFrames_fact16) poolFrames_fact17) poolFrames_fact18) poolFrames_fact19) poolFrames_fact20) poolFrames_fact21) poolFrames_fact22) poolFrames_fact23) poolFrames_fact24) poolFrames_fact25) poolFrames_fact26) poolFrames_fact27) poolFrames_fact28) poolFrames_fact29) poolFrames_fact30) poolFrames_fact31
end Go.Proofs.YtdfccegeihfdpaaGreatDoor
