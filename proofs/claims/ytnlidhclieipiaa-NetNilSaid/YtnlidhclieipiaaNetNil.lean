/-
  NetNil returns true for every parcel and every number: a nil net answers ErrNil and zeros.
  Condition: none.
-/
import Derived.Test.YtnlidhclieipiaaNetG
import Derived.ProofKit
import Derived.Lib.SmallJoins
namespace Go.Proofs.Ytnlidhclieipiaa
open Go Go.RowKit

set_option maxHeartbeats 1000000 in
theorem spoil_nil (i at_ : Int) (mask : Int) (w : World) :
    Calls Try.prog 24 #[.pointer none, .int .i64 i, .int .i64 at_, .int .u8 mask] w fun e w' => e = .returned (.int .i64 2) ∧ Upd Nowhere w w' := by
  go_enter Try.func24, Try.ntmps24
  go_wp2_with fail
  refine (round_nil _ _ _).mono ?_
  rintro e w1 ⟨rfl, rfl⟩
  go_wp2
  go_ret
  exact ⟨rfl, (((Upd.refl _ _).alloc _).alloc _).alloc _⟩

set_option maxHeartbeats 2000000 in
theorem netNil_walk (f t : Int) (s : Bool) (A : Option Addr) (n ca : Nat) (i : Int) (w : World) :
    Calls Try.prog 7 #[.agg #[.int .i64 f, .int .i64 t, .slice A n ca, .bool s], .int .i64 i] w fun e w' => e = .returned (.bool true) ∧ Below w.heap.size w w' := by
  go_enter Try.func7, Try.ntmps7
  go_wp2_with fail
  refine (look_nil _ _).mono ?_
  rintro e w1 ⟨rfl, hu⟩
  have bp := (Blk.new w 28 #[.int .i64 f, .int .i64 t, .slice A n ca, .bool s]).upd hu id
  have hb1 := Upd.onto ((Below.refl w.heap.size w).alloc (Nat.le_refl _) _) hu (fun _ h => h.elim) (by simp)
  have hs1 := hb1.size
  have HB1 := Lib.hid hb1
  have hlt := bp.lt
  clear hu hb1
  unfold zeroPcl
  go_wp2_with fail
  refine (take_nil _ _).mono ?_
  rintro e w2 ⟨rfl, hu⟩
  have bx := (Blk.new w1 28 #[.int .i64 0, .int .i64 0, .slice none 0 0, .bool false]).upd hu id
  have bp2 := (bp.alloc (.cells #[.int .i64 0, .int .i64 0, .slice none 0 0, .bool false] 28)).upd hu id
  have hb2 := Upd.onto (HB1.out.alloc hs1 _) hu (fun _ h => h.elim) (by simp; omega)
  have hs2 := hb2.size
  have HB2 := Lib.hid hb2
  have hlt1 := bx.lt
  have hlt2 := bp2.lt
  have cp := bp2.cell
  clear hu hb2 bp HB1
  unfold zeroPcl
  go_wp2_with fail
  refine (send_nil _ _ _ _ _ _ _).mono ?_
  rintro e w3 ⟨rfl, hu⟩
  have bx3 := (bx.alloc (.cells #[.int .i64 0, .int .i64 0, .slice none 0 0, .bool false] 28)).upd hu id
  have by3 := (Blk.new w2 28 #[.int .i64 0, .int .i64 0, .slice none 0 0, .bool false]).upd hu id
  have hb3 := Upd.onto (HB2.out.alloc hs2 _) hu (fun _ h => h.elim) (by simp; omega)
  have hs3 := hb3.size
  have HB3 := Lib.hid hb3
  have cx := bx3.cell
  have cy := by3.cell
  clear hu hb3 bx bp2 bx3 by3 HB2 cp hlt hlt1 hlt2
  go_wp2_with fail
  refine (drop_nil _ _).mono ?_
  rintro e w4 ⟨rfl, hu⟩
  have HB4 := Lib.hid (Upd.onto HB3.out hu (fun _ h => h.elim) hs3)
  have hs4 := HB4.out.size
  clear hu HB3 cx cy
  go_wp2_with fail
  refine (twice_nil _ _).mono ?_
  rintro e w5 ⟨rfl, hu⟩
  have HB5 := Lib.hid (Upd.onto HB4.out hu (fun _ h => h.elim) hs4)
  have hs5 := HB5.out.size
  clear hu HB4
  go_wp2_with fail
  refine (spoil_nil _ _ _ _).mono ?_
  rintro e w6 ⟨rfl, hu⟩
  have HB6 := Lib.hid (Upd.onto HB5.out hu (fun _ h => h.elim) hs5)
  have hs6 := HB6.out.size
  clear hu HB5
  go_wp2_with fail
  refine (len_nil _).mono ?_
  rintro e w7 ⟨rfl, rfl⟩
  go_wp2_with fail
  refine (lost_nil _).mono ?_
  rintro e w7 ⟨rfl, rfl⟩
  go_wp2_with fail
  refine (awake_ok _).mono ?_
  rintro e w7 ⟨rfl, hb⟩
  have HB7 := Lib.hid (HB6.out.trans (hb.mono hs6))
  clear hb HB6
  go_wp2
  go_ret
  exact ⟨rfl, HB7.out⟩
end Go.Proofs.Ytnlidhclieipiaa
