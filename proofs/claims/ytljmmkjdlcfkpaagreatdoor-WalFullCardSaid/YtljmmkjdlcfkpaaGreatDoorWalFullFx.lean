/-
  WalFull: the row's closed facts, one by one.
-/
import Derived.Test.YtljmmkjdlcfkpaaGreatDoorPost
import Derived.JoinedOf
import Derived.KernelRfl
namespace Go.Proofs.YtljmmkjdlcfkpaaGreatDoor
open Go
theorem walFull_tt {a b : Bool} (h : a = true) (k : b = true) : (a && b) = true := by rw [h, k]; rfl
theorem walFull_fact0 : (Rows.walFullRow.wf (OpenSpec.ofChange Rows.walFullSpec) : Bool) = true := by kernel_rfl
theorem walFull_fact2 : (mapsRowed Tryz.prog : Bool) = true := by kernel_rfl
theorem walFull_fact3 : (Tryz.f3.params.all (Tryz.prog.readableRec ·) : Bool) = true := by kernel_rfl
theorem walFull_fact4 : (namedTie Tryz.prog Rows.walFullRow.named Rows.walFullSpec.vars : Bool) = true := by kernel_rfl
theorem walFull_fact5 : ((Rows.walFullRow.stops == []) : Bool) = true := by kernel_rfl
theorem walFull_fact6 : ((Tryz.prog.stops == []) : Bool) = true := by kernel_rfl
theorem walFull_fact7 : ((Rows.walFullRow.knobs == []) : Bool) = true := by kernel_rfl
theorem walFull_fact8 : ((Tryz.prog.stopKnobs == []) : Bool) = true := by kernel_rfl
theorem walFull_fact9 : ((Rows.walFullRow.inPlace == Tryz.prog.inPlace 3) : Bool) = true := by kernel_rfl
theorem walFull_fact10 : ((Rows.walFullRow.unfollowed == Tryz.prog.unfollowed 3) : Bool) = true := by kernel_rfl
theorem walFull_fact11 : ((Rows.walFullRow.recurses == Tryz.prog.recurses 3) : Bool) = true := by kernel_rfl
theorem walFull_fact12 : ((Rows.walFullRow.named == Tryz.prog.varsNamed 3) : Bool) = true := by kernel_rfl
theorem walFull_fact13 : ((Rows.walFullRow.maps == (Tryz.f3.params.toList ++ Rows.walFullSpec.plain.varTypes Tryz.prog).any (Tryz.prog.mapsRec ·)) : Bool) = true := by kernel_rfl
theorem walFull_fact14 : ((Rows.walFullRow.ifaces == (Tryz.f3.params.toList ++ Rows.walFullSpec.plain.varTypes Tryz.prog).any (Tryz.prog.ifacesRec ·)) : Bool) = true := by kernel_rfl
theorem walFull_fact15 : ((Rows.walFullRow.mapsOut == Tryz.prog.mapsAmong Tryz.f3.resultTypes.toList) : Bool) = true := by kernel_rfl
theorem walFull_fact16 : ((Rows.walFullRow.loops == (Tryz.f3.params.toList ++ Rows.walFullSpec.plain.varTypes Tryz.prog).any (Tryz.prog.loopsFrom ·)) : Bool) = true := by kernel_rfl
theorem walFull_fact17 : ((Rows.walFullRow.wideKeys == (Tryz.f3.params.toList ++ Rows.walFullSpec.plain.varTypes Tryz.prog ++ Tryz.f3.resultTypes.toList).any (Tryz.prog.wideKeysFrom ·)) : Bool) = true := by kernel_rfl
theorem walFull_fact18 : (Rows.walFullSpec.vars.all (Tryz.prog.varReadable ·) : Bool) = true := by kernel_rfl
theorem walFull_fact19 : (Tryz.f3.resultTypes.all (fun t => Tryz.prog.readableRec t && decide (t < Tryz.prog.types.size)) : Bool) = true := by kernel_rfl
theorem walFull_fact20 : ((Rows.walFullRow.ifacesOut == Tryz.f3.resultTypes.toList.any (Tryz.prog.ifacesRec ·)) : Bool) = true := by kernel_rfl
theorem walFull_fact21 : ((Rows.walFullRow.loopsOut == Tryz.f3.resultTypes.toList.any (Tryz.prog.loopsFrom ·)) : Bool) = true := by kernel_rfl
theorem walFull_fact22 : ((Rows.walFullRow.plainKeys == Tryz.prog.plainKeys) : Bool) = true := by kernel_rfl
theorem walFull_fact23 : (Rows.walFullRow.shortTexts.isNone : Bool) = true := by kernel_rfl
theorem walFull_fact24 : (Tryz.prog.stopsHeard : Bool) = true := by kernel_rfl
theorem walFull_fact25 : (Tryz.prog.mayEnter : Bool) = true := by kernel_rfl
theorem walFull_fact26 : ((Rows.walFullRow.lifted == Tryz.prog.liftsFinal) : Bool) = true := by kernel_rfl
theorem walFull_fact27 : ((Tryz.prog.make == some Rows.walFullRow.make) : Bool) = true := by kernel_rfl
theorem walFull_fact28 : ((Rows.walFullRow.kinds == (if Rows.walFullRow.domain.isEmpty then [] else Tryz.f3.params.toList.map fun t => match Tryz.prog.underlying t with | some (.int k) => some k | _ => none)) : Bool) = true := by kernel_rfl
theorem walFull_fact29 : ((Rows.walFullRow.pinned == Rows.walFullRow.pinnedBy) : Bool) = true := by kernel_rfl
theorem walFull_fact30 : ((Rows.walFullRow.veiled == (Tryz.f3.params.toList ++ Rows.walFullSpec.plain.varTypes Tryz.prog ++ Tryz.f3.resultTypes.toList).any (Tryz.prog.veiledRec ·)) : Bool) = true := by kernel_rfl
theorem walFull_fact31 : (Rows.walFullRow.veiledFits Tryz.prog Tryz.f3.params.toList (Tryz.f3.params.toList ++ Rows.walFullSpec.plain.varTypes Tryz.prog ++ Tryz.f3.resultTypes.toList) : Bool) = true := by kernel_rfl
set_option maxRecDepth 100000 in
theorem walFull_facts : joinedFacts Tryz.prog 3 Tryz.f3 Rows.walFullSpec Rows.walFullRow = true := walFull_tt (walFull_tt (walFull_tt (walFull_tt (walFull_tt (walFull_tt (walFull_tt (walFull_tt (walFull_tt (walFull_tt (walFull_tt (walFull_tt (walFull_tt (walFull_tt (walFull_tt (walFull_tt (walFull_tt (walFull_tt (walFull_tt (walFull_tt (walFull_tt (walFull_tt (walFull_tt (walFull_tt (walFull_tt (walFull_tt (walFull_tt (walFull_tt (walFull_tt (walFull_tt (walFull_tt walFull_fact0 laid_out) walFull_fact2) walFull_fact3) walFull_fact4) walFull_fact5) walFull_fact6) walFull_fact7) walFull_fact8) walFull_fact9) walFull_fact10) walFull_fact11) walFull_fact12) walFull_fact13) walFull_fact14) walFull_fact15) walFull_fact16) walFull_fact17) walFull_fact18) walFull_fact19) walFull_fact20) walFull_fact21) walFull_fact22) walFull_fact23) walFull_fact24) walFull_fact25) walFull_fact26) walFull_fact27) walFull_fact28) walFull_fact29) walFull_fact30) walFull_fact31
end Go.Proofs.YtljmmkjdlcfkpaaGreatDoor
