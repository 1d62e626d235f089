/-
  WalOwn: the row's closed facts, one by one.
-/
import Derived.Test.YtljmmkjdlcfkpaaGreatDoorPost
import Derived.JoinedOf
import Derived.KernelRfl
namespace Go.Proofs.YtljmmkjdlcfkpaaGreatDoor
open Go
theorem walOwn_tt {a b : Bool} (h : a = true) (k : b = true) : (a && b) = true := by rw [h, k]; rfl
theorem walOwn_fact0 : (Rows.walOwnRow.wf (OpenSpec.ofChange Rows.walOwnSpec) : Bool) = true := by kernel_rfl
theorem walOwn_fact2 : (mapsRowed Tryz.prog : Bool) = true := by kernel_rfl
theorem walOwn_fact3 : (Tryz.f4.params.all (Tryz.prog.readableRec ·) : Bool) = true := by kernel_rfl
theorem walOwn_fact4 : (namedTie Tryz.prog Rows.walOwnRow.named Rows.walOwnSpec.vars : Bool) = true := by kernel_rfl
theorem walOwn_fact5 : ((Rows.walOwnRow.stops == []) : Bool) = true := by kernel_rfl
theorem walOwn_fact6 : ((Tryz.prog.stops == []) : Bool) = true := by kernel_rfl
theorem walOwn_fact7 : ((Rows.walOwnRow.knobs == []) : Bool) = true := by kernel_rfl
theorem walOwn_fact8 : ((Tryz.prog.stopKnobs == []) : Bool) = true := by kernel_rfl
theorem walOwn_fact9 : ((Rows.walOwnRow.inPlace == Tryz.prog.inPlace 4) : Bool) = true := by kernel_rfl
theorem walOwn_fact10 : ((Rows.walOwnRow.unfollowed == Tryz.prog.unfollowed 4) : Bool) = true := by kernel_rfl
theorem walOwn_fact11 : ((Rows.walOwnRow.recurses == Tryz.prog.recurses 4) : Bool) = true := by kernel_rfl
theorem walOwn_fact12 : ((Rows.walOwnRow.named == Tryz.prog.varsNamed 4) : Bool) = true := by kernel_rfl
theorem walOwn_fact13 : ((Rows.walOwnRow.maps == (Tryz.f4.params.toList ++ Rows.walOwnSpec.plain.varTypes Tryz.prog).any (Tryz.prog.mapsRec ·)) : Bool) = true := by kernel_rfl
theorem walOwn_fact14 : ((Rows.walOwnRow.ifaces == (Tryz.f4.params.toList ++ Rows.walOwnSpec.plain.varTypes Tryz.prog).any (Tryz.prog.ifacesRec ·)) : Bool) = true := by kernel_rfl
theorem walOwn_fact15 : ((Rows.walOwnRow.mapsOut == Tryz.prog.mapsAmong Tryz.f4.resultTypes.toList) : Bool) = true := by kernel_rfl
theorem walOwn_fact16 : ((Rows.walOwnRow.loops == (Tryz.f4.params.toList ++ Rows.walOwnSpec.plain.varTypes Tryz.prog).any (Tryz.prog.loopsFrom ·)) : Bool) = true := by kernel_rfl
theorem walOwn_fact17 : ((Rows.walOwnRow.wideKeys == (Tryz.f4.params.toList ++ Rows.walOwnSpec.plain.varTypes Tryz.prog ++ Tryz.f4.resultTypes.toList).any (Tryz.prog.wideKeysFrom ·)) : Bool) = true := by kernel_rfl
theorem walOwn_fact18 : (Rows.walOwnSpec.vars.all (Tryz.prog.varReadable ·) : Bool) = true := by kernel_rfl
theorem walOwn_fact19 : (Tryz.f4.resultTypes.all (fun t => Tryz.prog.readableRec t && decide (t < Tryz.prog.types.size)) : Bool) = true := by kernel_rfl
theorem walOwn_fact20 : ((Rows.walOwnRow.ifacesOut == Tryz.f4.resultTypes.toList.any (Tryz.prog.ifacesRec ·)) : Bool) = true := by kernel_rfl
theorem walOwn_fact21 : ((Rows.walOwnRow.loopsOut == Tryz.f4.resultTypes.toList.any (Tryz.prog.loopsFrom ·)) : Bool) = true := by kernel_rfl
theorem walOwn_fact22 : ((Rows.walOwnRow.plainKeys == Tryz.prog.plainKeys) : Bool) = true := by kernel_rfl
theorem walOwn_fact23 : (Rows.walOwnRow.shortTexts.isNone : Bool) = true := by kernel_rfl
theorem walOwn_fact24 : (Tryz.prog.stopsHeard : Bool) = true := by kernel_rfl
theorem walOwn_fact25 : (Tryz.prog.mayEnter : Bool) = true := by kernel_rfl
theorem walOwn_fact26 : ((Rows.walOwnRow.lifted == Tryz.prog.liftsFinal) : Bool) = true := by kernel_rfl
theorem walOwn_fact27 : ((Tryz.prog.make == some Rows.walOwnRow.make) : Bool) = true := by kernel_rfl
theorem walOwn_fact28 : ((Rows.walOwnRow.kinds == (if Rows.walOwnRow.domain.isEmpty then [] else Tryz.f4.params.toList.map fun t => match Tryz.prog.underlying t with | some (.int k) => some k | _ => none)) : Bool) = true := by kernel_rfl
theorem walOwn_fact29 : ((Rows.walOwnRow.pinned == Rows.walOwnRow.pinnedBy) : Bool) = true := by kernel_rfl
theorem walOwn_fact30 : ((Rows.walOwnRow.veiled == (Tryz.f4.params.toList ++ Rows.walOwnSpec.plain.varTypes Tryz.prog ++ Tryz.f4.resultTypes.toList).any (Tryz.prog.veiledRec ·)) : Bool) = true := by kernel_rfl
theorem walOwn_fact31 : (Rows.walOwnRow.veiledFits Tryz.prog Tryz.f4.params.toList (Tryz.f4.params.toList ++ Rows.walOwnSpec.plain.varTypes Tryz.prog ++ Tryz.f4.resultTypes.toList) : Bool) = true := by kernel_rfl
set_option maxRecDepth 100000 in
theorem walOwn_facts : joinedFacts Tryz.prog 4 Tryz.f4 Rows.walOwnSpec Rows.walOwnRow = true := walOwn_tt (walOwn_tt (walOwn_tt (walOwn_tt (walOwn_tt (walOwn_tt (walOwn_tt (walOwn_tt (walOwn_tt (walOwn_tt (walOwn_tt (walOwn_tt (walOwn_tt (walOwn_tt (walOwn_tt (walOwn_tt (walOwn_tt (walOwn_tt (walOwn_tt (walOwn_tt (walOwn_tt (walOwn_tt (walOwn_tt (walOwn_tt (walOwn_tt (walOwn_tt (walOwn_tt (walOwn_tt (walOwn_tt (walOwn_tt (walOwn_tt walOwn_fact0 laid_out) walOwn_fact2) walOwn_fact3) walOwn_fact4) walOwn_fact5) walOwn_fact6) walOwn_fact7) walOwn_fact8) walOwn_fact9) walOwn_fact10) walOwn_fact11) walOwn_fact12) walOwn_fact13) walOwn_fact14) walOwn_fact15) walOwn_fact16) walOwn_fact17) walOwn_fact18) walOwn_fact19) walOwn_fact20) walOwn_fact21) walOwn_fact22) walOwn_fact23) walOwn_fact24) walOwn_fact25) walOwn_fact26) walOwn_fact27) walOwn_fact28) walOwn_fact29) walOwn_fact30) walOwn_fact31
end Go.Proofs.YtljmmkjdlcfkpaaGreatDoor
