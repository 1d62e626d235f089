/-
  The shelf's contract of slices.SortFunc of frames, laid over the seat's program (plain text, printed for this seat by tools/layg.py).
-/
import Derived.Test.YtdfccegeihfdpaaGreatDoorChecked
import Derived.Shelf.SlSortCmp.NoneTotal
import Derived.Test.YtdfccegeihfdpaaGreatDoorALib
namespace Go.Proofs.YtdfccegeihfdpaaGreatDoor
open Go
def Tryz.l6_ren:Go.Shelf.Ren:=⟨fun | 6=>92 | 15=>145 | 14=>144 | 28=>209 | 29=>210 | 20=>201 | 21=>202 | 22=>203 | 23=>204 | 24=>205 | 25=>206 | 26=>207 | 27=>208 | 46=>248 | 47=>249 | 48=>250 | 49=>251 | 50=>252 | 57=>261 | n=>n,fun | 22=>80 | 24=>83 | 25=>161 | 3=>3 | 39=>227 | 0=>0 | 53=>297 | 55=>232 | 4=>4 | 46=>291 | 45=>290 | 50=>219 | 5=>5 | 9=>9 | 66=>335 | 70=>194 | 76=>344 | 77=>123 | n=>n,fun | n=>n⟩
theorem Tryz.l6:Go.Proofs.SlLaysF0.n6 Tryz.prog Tryz.l6_ren where
 mixed:=by kernel_rfl
 f6:=⟨ "slices.SortFunc[[]troth/api.Frame,troth/api.Frame]",by decide,Tryz.func92.trans (congrArg some (by kernel_rfl))⟩
 f14:=⟨ "slices.pdqsortCmpFunc[troth/api.Frame]",by decide,Tryz.func144.trans (congrArg some (by kernel_rfl))⟩
 f15:=Tryz.func145.trans (congrArg some (by kernel_rfl))
 f20:=⟨ "slices.insertionSortCmpFunc[troth/api.Frame]",by decide,Tryz.func201.trans (congrArg some (by kernel_rfl))⟩
 f21:=⟨ "slices.heapSortCmpFunc[troth/api.Frame]",by decide,Tryz.func202.trans (congrArg some (by kernel_rfl))⟩
 f22:=⟨ "slices.breakPatternsCmpFunc[troth/api.Frame]",by decide,Tryz.func203.trans (congrArg some (by kernel_rfl))⟩
 f23:=⟨ "slices.choosePivotCmpFunc[troth/api.Frame]",by decide,Tryz.func204.trans (congrArg some (by kernel_rfl))⟩
 f24:=⟨ "slices.reverseRangeCmpFunc[troth/api.Frame]",by decide,Tryz.func205.trans (congrArg some (by kernel_rfl))⟩
 f25:=⟨ "slices.partialInsertionSortCmpFunc[troth/api.Frame]",by decide,Tryz.func206.trans (congrArg some (by kernel_rfl))⟩
 f26:=⟨ "slices.partitionEqualCmpFunc[troth/api.Frame]",by decide,Tryz.func207.trans (congrArg some (by kernel_rfl))⟩
 f27:=⟨ "slices.partitionCmpFunc[troth/api.Frame]",by decide,Tryz.func208.trans (congrArg some (by kernel_rfl))⟩
 f28:=Tryz.func209.trans (congrArg some (by kernel_rfl))
 f29:=Tryz.func210.trans (congrArg some (by kernel_rfl))
 f46:=⟨ "slices.siftDownCmpFunc[troth/api.Frame]",by decide,Tryz.func248.trans (congrArg some (by kernel_rfl))⟩
 f47:=Tryz.func249.trans (congrArg some (by kernel_rfl))
 f48:=Tryz.func250.trans (congrArg some (by kernel_rfl))
 f49:=⟨ "slices.medianAdjacentCmpFunc[troth/api.Frame]",by decide,Tryz.func251.trans (congrArg some (by kernel_rfl))⟩
 f50:=⟨ "slices.medianCmpFunc[troth/api.Frame]",by decide,Tryz.func252.trans (congrArg some (by kernel_rfl))⟩
 f57:=⟨ "slices.order2CmpFunc[troth/api.Frame]",by decide,Tryz.func261.trans (congrArg some (by kernel_rfl))⟩
 t0:=Tryz.underlying0
 a0:=Tryz.isAgg0
 z0:=Tryz.sizeOf0
 v0:=Tryz.zeroValue0
 t3:=Tryz.underlying3
 a3:=Tryz.isAgg3
 z3:=Tryz.sizeOf3
 v3:=Tryz.zeroValue3
 t4:=Tryz.underlying4
 a4:=Tryz.isAgg4
 z4:=Tryz.sizeOf4
 v4:=Tryz.zeroValue4
 t5:=Tryz.underlying5
 a5:=Tryz.isAgg5
 z5:=Tryz.sizeOf5
 v5:=Tryz.zeroValue5
 t9:=Tryz.underlying9
 a9:=Tryz.isAgg9
 z9:=Tryz.sizeOf9
 v9:=Tryz.zeroValue9
 t22:=Tryz.underlying80
 a22:=Tryz.isAgg80
 z22:=Tryz.sizeOf80
 v22:=Tryz.zeroValue80
 t25:=Tryz.underlying161
 a25:=Tryz.isAgg161
 z25:=Tryz.sizeOf161
 v25:=Tryz.zeroValue161
 t39:=Tryz.underlying227
 a39:=Tryz.isAgg227
 z39:=Tryz.sizeOf227
 v39:=Tryz.zeroValue227
 t45:=Tryz.underlying290
 a45:=Tryz.isAgg290
 z45:=Tryz.sizeOf290
 v45:=Tryz.zeroValue290
 t46:=Tryz.underlying291
 a46:=Tryz.isAgg291
 z46:=Tryz.sizeOf291
 v46:=Tryz.zeroValue291
 t50:=Tryz.underlying219
 a50:=Tryz.isAgg219
 z50:=Tryz.sizeOf219
 v50:=Tryz.zeroValue219
 t53:=Tryz.underlying297
 a53:=Tryz.isAgg297
 z53:=Tryz.sizeOf297
 v53:=Tryz.zeroValue297
 t55:=Tryz.underlying232
 a55:=Tryz.isAgg232
 z55:=Tryz.sizeOf232
 v55:=Tryz.zeroValue232
 t66:=Tryz.underlying335
 a66:=Tryz.isAgg335
 z66:=Tryz.sizeOf335
 v66:=Tryz.zeroValue335
 t70:=Tryz.underlying194
 a70:=Tryz.isAgg194
 z70:=Tryz.sizeOf194
 v70:=Tryz.zeroValue194
 t76:=Tryz.underlying344
 a76:=Tryz.isAgg344
 z76:=Tryz.sizeOf344
 v76:=Tryz.zeroValue344
 t77:=Tryz.underlying123
 a77:=Tryz.isAgg123
 z77:=Tryz.sizeOf123
 v77:=Tryz.zeroValue123
end Go.Proofs.YtdfccegeihfdpaaGreatDoor
