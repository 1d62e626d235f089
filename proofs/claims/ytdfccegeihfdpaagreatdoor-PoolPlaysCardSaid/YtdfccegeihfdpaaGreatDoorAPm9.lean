/-
  The log and all below it: part 9 of 10 (merged by mergew.py).
-/
import Derived.Test.YtdfccegeihfdpaaGreatDoorAPm8
namespace Go.Proofs.YtdfccegeihfdpaaGreatDoor
open Go Go.RowKit
def zeroA:Array Value:=#[.int .i64 0,.int .i64 0,.int .i64 0,.int .i64 0,.string ⟨#[]⟩,.bool false,.string ⟨#[]⟩,.bool false,.string ⟨#[]⟩,.int .i64 0,.slice none 0 0,.slice none 0 0,.slice none 0 0,.slice none 0 0,.slice none 0 0,.slice none 0 0]
theorem res_rec2{fn:Func}{p u:Tmp}(h:fn.results=#[.cell p 39,.tmp u]){tmps:Array Value}{w:World}{g:Nat}{cs:Array Value}(hp:tmps.getD p undef= .pointer (some ⟨g,0,none⟩))(hg:Blk w g 39 cs)(hs:cs.size=16):
 (results fn tmps).run Tryz.prog w= .ok (.tuple #[.agg cs,tmps.getD u undef]) w:=by
 rw[results_cell_tmp h,hp];have e:=run_loadVar_row w g 39 39 cs _ _ hg Tryz.underlying39 rfl (by rw[hs];kernel_rfl)
 simp[asAddr,Result.andThen,e]
end Go.Proofs.YtdfccegeihfdpaaGreatDoor
