/-
  The shelf's contracts of strconv.Itoa, laid over the seat's program (plain text, printed for this seat by tools/layp.py).
-/
import Derived.Test.YtlboobboacjnmaaDoorChecked
import Derived.Shelf.Strconv.Itoa3
import Derived.Ground.NamesProg
namespace Go.Proofs.YtlboobboacjnmaaDoor
open Go

def Tryd.lays171_ren : Go.Shelf.Ren := ⟨fun | 171 => 19 | 243 => 20 | 246 => 21 | 283 => 22 | 284 => 23 | 285 => 24 | 286 => 25 | 129 => 27 | 317 => 26 | 318 => 28 | 319 => 29 | 320 => 30 | 337 => 31 | 338 => 32 | n => n, fun | 3 => 3 | 9 => 9 | 2 => 2 | 4 => 4 | 171 => 63 | 0 => 0 | 53 => 22 | 37 => 66 | 5 => 5 | 173 => 67 | 212 => 70 | 51 => 71 | 20 => 20 | 213 => 72 | 46 => 58 | 232 => 75 | 233 => 76 | n => n, fun | 17 => 0 | 18 => 1 | 19 => 2 | n => n⟩
theorem Tryd.lays171 : Go.Proofs.Lays.n171 Tryd.prog Tryd.lays171_ren where
  mixed := by kernel_rfl
  f129 := Tryd.func27.trans (congrArg some (by kernel_rfl))
  f171 := Tryd.func19.trans (congrArg some (by kernel_rfl))
  f243 := Tryd.func20.trans (congrArg some (by kernel_rfl))
  f246 := Tryd.func21.trans (congrArg some (by kernel_rfl))
  f283 := Tryd.func22.trans (congrArg some (by kernel_rfl))
  f284 := Tryd.func23.trans (congrArg some (by kernel_rfl))
  f285 := Tryd.func24.trans (congrArg some (by kernel_rfl))
  f286 := Tryd.func25.trans (congrArg some (by kernel_rfl))
  f317 := Tryd.func26.trans (congrArg some (by kernel_rfl))
  f318 := Tryd.func28.trans (congrArg some (by kernel_rfl))
  f319 := Tryd.func29.trans (congrArg some (by kernel_rfl))
  f320 := Tryd.func30.trans (congrArg some (by kernel_rfl))
  f337 := Tryd.func31.trans (congrArg some (by kernel_rfl))
  f338 := Tryd.func32.trans (congrArg some (by kernel_rfl))
  t0 := Tryd.underlying0
  a0 := Tryd.isAgg0
  z0 := Tryd.sizeOf0
  v0 := Tryd.zeroValue0
  t2 := Tryd.underlying2
  a2 := Tryd.isAgg2
  z2 := Tryd.sizeOf2
  v2 := Tryd.zeroValue2
  t3 := Tryd.underlying3
  a3 := Tryd.isAgg3
  z3 := Tryd.sizeOf3
  v3 := Tryd.zeroValue3
  t4 := Tryd.underlying4
  a4 := Tryd.isAgg4
  z4 := Tryd.sizeOf4
  v4 := Tryd.zeroValue4
  t5 := Tryd.underlying5
  a5 := Tryd.isAgg5
  z5 := Tryd.sizeOf5
  v5 := Tryd.zeroValue5
  t9 := Tryd.underlying9
  a9 := Tryd.isAgg9
  z9 := Tryd.sizeOf9
  v9 := Tryd.zeroValue9
  t20 := Tryd.underlying20
  a20 := Tryd.isAgg20
  z20 := Tryd.sizeOf20
  v20 := Tryd.zeroValue20
  t37 := Tryd.underlying66
  a37 := Tryd.isAgg66
  z37 := Tryd.sizeOf66
  v37 := Tryd.zeroValue66
  t46 := Tryd.underlying58
  a46 := Tryd.isAgg58
  z46 := Tryd.sizeOf58
  v46 := Tryd.zeroValue58
  t51 := Tryd.underlying71
  a51 := Tryd.isAgg71
  z51 := Tryd.sizeOf71
  v51 := Tryd.zeroValue71
  t53 := Tryd.underlying22
  a53 := Tryd.isAgg22
  z53 := Tryd.sizeOf22
  v53 := Tryd.zeroValue22
  t171 := Tryd.underlying63
  a171 := Tryd.isAgg63
  z171 := Tryd.sizeOf63
  v171 := Tryd.zeroValue63
  t173 := Tryd.underlying67
  a173 := Tryd.isAgg67
  z173 := Tryd.sizeOf67
  v173 := Tryd.zeroValue67
  t212 := Tryd.underlying70
  a212 := Tryd.isAgg70
  z212 := Tryd.sizeOf70
  v212 := Tryd.zeroValue70
  t213 := Tryd.underlying72
  a213 := Tryd.isAgg72
  z213 := Tryd.sizeOf72
  t232 := Tryd.underlying75
  a232 := Tryd.isAgg75
  z232 := Tryd.sizeOf75
  v232 := Tryd.zeroValue75
  t233 := Tryd.underlying76
  a233 := Tryd.isAgg76
  z233 := Tryd.sizeOf76
  v233 := Tryd.zeroValue76
  g17 := by kernel_rfl
  g18 := by kernel_rfl
  g19 := by kernel_rfl
end Go.Proofs.YtlboobboacjnmaaDoor
