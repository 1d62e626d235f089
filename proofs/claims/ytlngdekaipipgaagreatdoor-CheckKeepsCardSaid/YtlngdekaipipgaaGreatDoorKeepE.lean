/-
  CheckKeeps returns true for all its arguments.
-/
import Derived.Test.YtlngdekaipipgaaGreatDoorAppNew
import Derived.Test.YtlngdekaipipgaaGreatDoorKeepB
import Derived.Test.YtlngdekaipipgaaGreatDoorKeepD
import Derived.Test.YtlngdekaipipgaaGreatDoorAwake17
namespace Go.Proofs.YtlngdekaipipgaaGreatDoor
open Go Go.RowKit Ev

theorem info_row : (Tryz.prog.info? 74).map (fun i => (i.zero, i.size, i.bytes)) = some (some (.agg #[.int .i64 0, .int .i64 0, .int .i64 0, .int .i64 0, .int .i64 0, .int .i64 0, .slice none 0 0, .slice none 0 0]), 8, 96) := by kernel_rfl
theorem info_dirty : (Tryz.prog.info? 140).map (fun i => (i.zero, i.size, i.bytes)) = some (some (.agg #[.int .i64 0, .int .i64 0]), 2, 16) := by kernel_rfl
theorem rows_one (L : List RowV) : ∀ u ∈ L.flatMap RowV.cells, u.oneCell' = true := by
  intro u hu
  obtain ⟨r, _, hu⟩ := List.mem_flatMap.1 hu
  simp only [RowV.cells, List.mem_cons, List.not_mem_nil, or_false] at hu
  rcases hu with rfl | rfl | rfl | rfl | rfl | rfl | rfl | rfl <;> rfl
theorem dirty_one (L : List (Int × Int)) : ∀ u ∈ L.flatMap dirtyCells, u.oneCell' = true := by
  intro u hu
  obtain ⟨r, _, hu⟩ := List.mem_flatMap.1 hu
  simp only [dirtyCells, List.mem_cons, List.not_mem_nil, or_false] at hu
  rcases hu with rfl | rfl <;> rfl
theorem keep_calls (b : Int) (v1 v2 : Value) (L : List RowV) (D : List (Int × Int)) (hm1 : L.length ≤ 100) (hm2 : D.length ≤ 100) (w : World) (g1 : RowsE w v1 L) (g2 : DirtyE w v2 D) :
    Calls Tryz.prog 16 #[.int .i64 b, v1, v2] w fun e W' => e = .returned (.int .i64 (least b (firstsL L D))) ∧ Below w.heap.size w W' :=
  callsIn_wide.1 (Keep_in Fence.wide 3 trivial trivial trivial rfl (Nat.le_refl _) b v1 v2 L D hm1 hm2 w g1 g2)

set_option maxRecDepth 100000
set_option maxHeartbeats 2000000 in
theorem checkKeeps_walk (b : Int) (v1 v2 : Value) (L : List RowV) (D : List (Int × Int)) (w : World) (hw : HalfAt w) (g1 : RowsE w v1 L) (g2 : DirtyE w v2 D) :
    Calls Tryz.prog 5 #[.int .i64 b, v1, v2] w fun e w' => e = .returned (.bool true) ∧ Below w.heap.size w w' := by
  obtain ⟨A1, c1, rfl, hc1⟩ := g1.val
  obtain ⟨A2, c2, rfl, hc2⟩ := g2.val
  have HW := Lib.hid hw
  clear hw
  by_cases hm1 : 100 < L.length
  · clear g1 g2
    go_enter Tryz.func5, Tryz.ntmps5
    go_wp2_with fail
    refine (awake17_ok HW.out).mono ?_
    rintro e w' ⟨rfl, hb⟩
    have HB := Lib.hid hb
    clear hb
    go_wp2
    go_ret
    exact ⟨rfl, HB.out⟩
  by_cases hm2 : 100 < D.length
  · clear g1 g2
    go_enter Tryz.func5, Tryz.ntmps5
    go_wp2_with fail
    refine (awake17_ok HW.out).mono ?_
    rintro e w' ⟨rfl, hb⟩
    have HB := Lib.hid hb
    clear hb
    go_wp2
    go_ret
    exact ⟨rfl, HB.out⟩
  obtain ⟨i1, hi1, hz1, hs1, hb1⟩ := info_parts info_row
  obtain ⟨i2, hi2, hz2, hs2, hb2⟩ := info_parts info_dirty
  obtain ⟨u1, w1, hrun1, ho1, hu1⟩ := run_append_new 45 74 i1 _ 8 96 Tryz.underlying45 hi1 hz1 hs1 hb1 rfl (by omega) w _ L.length _ g1 (rows_one L) (by omega) (by unfold maxLen; omega)
  obtain ⟨u2, w2, hrun2, ho2, hu2⟩ := run_append_new 46 140 i2 _ 2 16 Tryz.underlying46 hi2 hz2 hs2 hb2 rfl (by omega) w1 _ D.length _ (g2.upd hu1 fun _ _ => id) (dirty_one D) (by omega) (by unfold maxLen; omega)
  have hE1 : RowsE w2 u1 L := (Reads.of_own ho1).upd hu2 fun _ _ => id
  have hE2 : DirtyE w2 u2 D := Reads.of_own ho2
  have hU : Upd Nowhere w w2 := hu1.trans hu2 fun _ _ => id
  have HK := Lib.hid (keep_calls b u1 u2 L D (by omega) (by omega) w2 hE1 hE2)
  obtain ⟨B1, d1, rfl⟩ := own_form ho1
  obtain ⟨B2, d2, rfl⟩ := own_form ho2
  have G1 := Lib.hid (g1.upd hU fun _ _ => id)
  have G2 := Lib.hid (g2.upd hU fun _ _ => id)
  have HU := Lib.hid hU
  have HM1 := Lib.hid hm1
  have HM2 := Lib.hid hm2
  clear ho1 ho2 hu1 hu2 hE1 hE2 hU g1 g2 hi1 hz1 hs1 hb1 hi2 hz2 hs2 hb2
  go_enter Tryz.func5, Tryz.ntmps5
  go_wp2_with (at_builtin; first | refine wpList_append_run rfl _ _ _ rfl rfl rfl hrun1 ?_ | refine wpList_append_run rfl _ _ _ rfl rfl rfl hrun2 ?_)
  refine HK.out.mono ?_
  rintro e w3 ⟨rfl, hb3⟩
  have HB3 := Lib.hid hb3
  have HR := Lib.hid (refKeep_ok b _ _ L D w3 (G1.out.below hb3) (G2.out.below hb3) (by have := HM1.out; omega) (by have := HM2.out; omega))
  clear hb3
  go_wp2_with fail
  refine HR.out.mono ?_
  rintro e w4 ⟨rfl, rfl⟩
  rw [least_ref]
  generalize least b (firstsL L D) = t
  go_wp2_with fail
  have hb5 : Below w.heap.size w w3 := (HU.out.toBelow fun _ _ => id).trans (HB3.out.mono HU.out.size)
  refine (awake17_ok (HW.out.below hb5)).mono ?_
  rintro e w' ⟨rfl, hb⟩
  have HB := Lib.hid (hb5.trans (hb.mono hb5.size))
  clear hb hb5
  go_wp2
  go_ret
  exact ⟨rfl, HB.out⟩
end Go.Proofs.YtlngdekaipipgaaGreatDoor
