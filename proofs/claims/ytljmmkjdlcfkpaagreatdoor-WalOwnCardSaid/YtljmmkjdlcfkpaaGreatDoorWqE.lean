/-
  Layer 7: the fields that a kind has not.
-/
import Derived.Test.YtljmmkjdlcfkpaaGreatDoorWqD
import Derived.Laws.Rows
namespace Go.Proofs.YtljmmkjdlcfkpaaGreatDoor
open Go Go.RowKit

def BareP.arr (b : BareP) : Array Value := #[.bool b.prev, .bool b.next, .bool b.key, .bool b.old, .bool b.new, .bool b.coord, .bool b.mem, .bool b.loc, .bool b.lists]
set_option maxRecDepth 100000 in
set_option maxHeartbeats 2000000 in
theorem wants1_ok (w : World) : Calls Tryz.prog 140 #[.int .i64 1] w fun e w' => e = .returned (.agg (wantsP 1).arr) ∧ Upd Nowhere w w' := by
  have he : (wantsP 1).arr = #[.bool false, .bool true, .bool false, .bool false, .bool false, .bool true, .bool true, .bool true, .bool true] := rfl
  rw [he]
  clear he
  go_enter Tryz.func140, Tryz.ntmps140
  go_wp2_with fail
  refine bodyPost_ret (results_cell_row rfl _ _ w.heap.size 223 #[.bool false, .bool true, .bool false, .bool false, .bool false, .bool true, .bool true, .bool true, .bool true] _ _ rfl ((Blk.new w 223 #[.bool false, .bool true, .bool false, .bool false, .bool false, .bool true, .bool true, .bool true, .bool true]).alloc _) Tryz.underlying223 rfl (by kernel_rfl)) rfl ?_
  exact ⟨rfl, ((Upd.refl Nowhere w).alloc _).alloc _⟩
set_option maxRecDepth 100000 in
set_option maxHeartbeats 2000000 in
theorem wants2_ok (w : World) : Calls Tryz.prog 140 #[.int .i64 2] w fun e w' => e = .returned (.agg (wantsP 2).arr) ∧ Upd Nowhere w w' := by
  have he : (wantsP 2).arr = #[.bool false, .bool false, .bool false, .bool true, .bool false, .bool true, .bool true, .bool true, .bool true] := rfl
  rw [he]
  clear he
  go_enter Tryz.func140, Tryz.ntmps140
  go_wp2_with fail
  refine bodyPost_ret (results_cell_row rfl _ _ w.heap.size 223 #[.bool false, .bool false, .bool false, .bool true, .bool false, .bool true, .bool true, .bool true, .bool true] _ _ rfl ((Blk.new w 223 #[.bool false, .bool false, .bool false, .bool true, .bool false, .bool true, .bool true, .bool true, .bool true]).alloc _) Tryz.underlying223 rfl (by kernel_rfl)) rfl ?_
  exact ⟨rfl, ((Upd.refl Nowhere w).alloc _).alloc _⟩
set_option maxRecDepth 100000 in
set_option maxHeartbeats 2000000 in
theorem wants3_ok (w : World) : Calls Tryz.prog 140 #[.int .i64 3] w fun e w' => e = .returned (.agg (wantsP 3).arr) ∧ Upd Nowhere w w' := by
  have he : (wantsP 3).arr = #[.bool false, .bool true, .bool true, .bool true, .bool true, .bool false, .bool false, .bool false, .bool true] := rfl
  rw [he]
  clear he
  go_enter Tryz.func140, Tryz.ntmps140
  go_wp2_with fail
  refine bodyPost_ret (results_cell_row rfl _ _ w.heap.size 223 #[.bool false, .bool true, .bool true, .bool true, .bool true, .bool false, .bool false, .bool false, .bool true] _ _ rfl ((Blk.new w 223 #[.bool false, .bool true, .bool true, .bool true, .bool true, .bool false, .bool false, .bool false, .bool true]).alloc _) Tryz.underlying223 rfl (by kernel_rfl)) rfl ?_
  exact ⟨rfl, ((Upd.refl Nowhere w).alloc _).alloc _⟩
set_option maxRecDepth 100000 in
set_option maxHeartbeats 2000000 in
theorem wants4_ok (w : World) : Calls Tryz.prog 140 #[.int .i64 4] w fun e w' => e = .returned (.agg (wantsP 4).arr) ∧ Upd Nowhere w w' := by
  have he : (wantsP 4).arr = #[.bool false, .bool true, .bool true, .bool true, .bool true, .bool true, .bool true, .bool true, .bool true] := rfl
  rw [he]
  clear he
  go_enter Tryz.func140, Tryz.ntmps140
  go_wp2_with fail
  refine bodyPost_ret (results_cell_row rfl _ _ w.heap.size 223 #[.bool false, .bool true, .bool true, .bool true, .bool true, .bool true, .bool true, .bool true, .bool true] _ _ rfl ((Blk.new w 223 #[.bool false, .bool true, .bool true, .bool true, .bool true, .bool true, .bool true, .bool true, .bool true]).alloc _) Tryz.underlying223 rfl (by kernel_rfl)) rfl ?_
  exact ⟨rfl, ((Upd.refl Nowhere w).alloc _).alloc _⟩
set_option maxRecDepth 100000 in
set_option maxHeartbeats 2000000 in
theorem wants5_ok (w : World) : Calls Tryz.prog 140 #[.int .i64 5] w fun e w' => e = .returned (.agg (wantsP 5).arr) ∧ Upd Nowhere w w' := by
  have he : (wantsP 5).arr = #[.bool false, .bool true, .bool true, .bool true, .bool true, .bool true, .bool true, .bool true, .bool true] := rfl
  rw [he]
  clear he
  go_enter Tryz.func140, Tryz.ntmps140
  go_wp2_with fail
  refine bodyPost_ret (results_cell_row rfl _ _ w.heap.size 223 #[.bool false, .bool true, .bool true, .bool true, .bool true, .bool true, .bool true, .bool true, .bool true] _ _ rfl ((Blk.new w 223 #[.bool false, .bool true, .bool true, .bool true, .bool true, .bool true, .bool true, .bool true, .bool true]).alloc _) Tryz.underlying223 rfl (by kernel_rfl)) rfl ?_
  exact ⟨rfl, ((Upd.refl Nowhere w).alloc _).alloc _⟩
set_option maxRecDepth 100000 in
set_option maxHeartbeats 2000000 in
theorem wants6_ok (w : World) : Calls Tryz.prog 140 #[.int .i64 6] w fun e w' => e = .returned (.agg (wantsP 6).arr) ∧ Upd Nowhere w w' := by
  have he : (wantsP 6).arr = #[.bool false, .bool true, .bool true, .bool true, .bool true, .bool true, .bool true, .bool true, .bool true] := rfl
  rw [he]
  clear he
  go_enter Tryz.func140, Tryz.ntmps140
  go_wp2_with fail
  refine bodyPost_ret (results_cell_row rfl _ _ w.heap.size 223 #[.bool false, .bool true, .bool true, .bool true, .bool true, .bool true, .bool true, .bool true, .bool true] _ _ rfl ((Blk.new w 223 #[.bool false, .bool true, .bool true, .bool true, .bool true, .bool true, .bool true, .bool true, .bool true]).alloc _) Tryz.underlying223 rfl (by kernel_rfl)) rfl ?_
  exact ⟨rfl, ((Upd.refl Nowhere w).alloc _).alloc _⟩
set_option maxRecDepth 100000 in
set_option maxHeartbeats 2000000 in
theorem wants7_ok (w : World) : Calls Tryz.prog 140 #[.int .i64 7] w fun e w' => e = .returned (.agg (wantsP 7).arr) ∧ Upd Nowhere w w' := by
  have he : (wantsP 7).arr = #[.bool true, .bool true, .bool true, .bool true, .bool true, .bool true, .bool true, .bool true, .bool true] := rfl
  rw [he]
  clear he
  go_enter Tryz.func140, Tryz.ntmps140
  go_wp2_with fail
  refine bodyPost_ret (results_cell_row rfl _ _ w.heap.size 223 #[.bool true, .bool true, .bool true, .bool true, .bool true, .bool true, .bool true, .bool true, .bool true] _ _ rfl ((Blk.new w 223 #[.bool true, .bool true, .bool true, .bool true, .bool true, .bool true, .bool true, .bool true, .bool true]).alloc _) Tryz.underlying223 rfl (by kernel_rfl)) rfl ?_
  exact ⟨rfl, ((Upd.refl Nowhere w).alloc _).alloc _⟩
set_option maxRecDepth 100000 in
set_option maxHeartbeats 2000000 in
theorem wants8_ok (w : World) : Calls Tryz.prog 140 #[.int .i64 8] w fun e w' => e = .returned (.agg (wantsP 8).arr) ∧ Upd Nowhere w w' := by
  have he : (wantsP 8).arr = #[.bool true, .bool true, .bool true, .bool true, .bool true, .bool true, .bool true, .bool true, .bool false] := rfl
  rw [he]
  clear he
  go_enter Tryz.func140, Tryz.ntmps140
  go_wp2_with fail
  refine bodyPost_ret (results_cell_row rfl _ _ w.heap.size 223 #[.bool true, .bool true, .bool true, .bool true, .bool true, .bool true, .bool true, .bool true, .bool false] _ _ rfl ((Blk.new w 223 #[.bool true, .bool true, .bool true, .bool true, .bool true, .bool true, .bool true, .bool true, .bool false]).alloc _) Tryz.underlying223 rfl (by kernel_rfl)) rfl ?_
  exact ⟨rfl, ((Upd.refl Nowhere w).alloc _).alloc _⟩
set_option maxRecDepth 100000 in
set_option maxHeartbeats 2000000 in
theorem wants9_ok (w : World) : Calls Tryz.prog 140 #[.int .i64 9] w fun e w' => e = .returned (.agg (wantsP 9).arr) ∧ Upd Nowhere w w' := by
  have he : (wantsP 9).arr = #[.bool true, .bool true, .bool true, .bool true, .bool true, .bool true, .bool false, .bool true, .bool true] := rfl
  rw [he]
  clear he
  go_enter Tryz.func140, Tryz.ntmps140
  go_wp2_with fail
  refine bodyPost_ret (results_cell_row rfl _ _ w.heap.size 223 #[.bool true, .bool true, .bool true, .bool true, .bool true, .bool true, .bool false, .bool true, .bool true] _ _ rfl ((Blk.new w 223 #[.bool true, .bool true, .bool true, .bool true, .bool true, .bool true, .bool false, .bool true, .bool true]).alloc _) Tryz.underlying223 rfl (by kernel_rfl)) rfl ?_
  exact ⟨rfl, ((Upd.refl Nowhere w).alloc _).alloc _⟩
set_option maxRecDepth 100000 in
set_option maxHeartbeats 2000000 in
theorem wants10_ok (w : World) : Calls Tryz.prog 140 #[.int .i64 10] w fun e w' => e = .returned (.agg (wantsP 10).arr) ∧ Upd Nowhere w w' := by
  have he : (wantsP 10).arr = #[.bool true, .bool true, .bool true, .bool true, .bool true, .bool true, .bool true, .bool true, .bool true] := rfl
  rw [he]
  clear he
  go_enter Tryz.func140, Tryz.ntmps140
  go_wp2_with fail
  refine bodyPost_ret (results_cell_row rfl _ _ w.heap.size 223 #[.bool true, .bool true, .bool true, .bool true, .bool true, .bool true, .bool true, .bool true, .bool true] _ _ rfl ((Blk.new w 223 #[.bool true, .bool true, .bool true, .bool true, .bool true, .bool true, .bool true, .bool true, .bool true]).alloc _) Tryz.underlying223 rfl (by kernel_rfl)) rfl ?_
  exact ⟨rfl, ((Upd.refl Nowhere w).alloc _).alloc _⟩
end Go.Proofs.YtljmmkjdlcfkpaaGreatDoor
