/-
  Layer 7: the pool's record (an update of one key by transaction 1) may be; its bytes.
-/
import Derived.Test.YtdfccegeihfdpaaGreatDoorPm9
import Derived.Test.YtdfccegeihfdpaaGreatDoorPoD
namespace Go.Proofs.YtdfccegeihfdpaaGreatDoor
open Go Go.RowKit

def updP (key : Bs) (vh : Bool) (vd : Bs) : RecP := ⟨1, 1, 0, 0, key, false, [], vh, vd, 0, [], [], [], [], [], []⟩
def updA (key : Bs) (vh : Bool) (vd : Bs) : Array Value := #[.int .i64 1, .int .i64 1, .int .i64 0, .int .i64 0, strV key, .bool false, .string ⟨#[]⟩, .bool vh, strV vd, .int .i64 0, .slice none 0 0, .slice none 0 0, .slice none 0 0, .slice none 0 0, .slice none 0 0, .slice none 0 0]
theorem updA_eq (key : Bs) (vh : Bool) (vd : Bs) : ((updP key vh vd).rv nilS).cells.toArray = updA key vh vd := rfl
theorem updP_nil (w : World) (key : Bs) (vh : Bool) (vd : Bs) : RecE w (updP key vh vd) nilS :=
  ⟨(OwnR.nil 3 intC 1 0 w).els, (OwnR.nil 170 lockC 2 0 w).els, ⟨[], (OwnR.nil 172 RowW.cells 8 0 w).els, rfl, fun q hq => by cases hq⟩, (OwnR.nil 168 dirC 2 0 w).els, ⟨[], (OwnR.nil 174 DeedV.cells 2 0 w).els, rfl, fun q hq => by cases hq⟩, (OwnR.nil 3 intC 1 0 w).els⟩
theorem updP_bytes (key : Bs) (vh : Bool) (vd : Bs) : (updP key vh vd).bytes = numZ 1 ++ (numZ 1 ++ (numZ 0 ++ (textB key ++ (valB false [] ++ valB vh vd)))) := by simp [updP, RecP.bytes, RecP.fieldsB]
theorem valB_len (h : Bool) {d : Bs} (hd : d.length ≤ 32) : (valB h d).length ≤ 34 := by
  have h1 := shortB_1 (n := d.length) (by omega)
  unfold valB flagB textB
  split <;> simp <;> omega
theorem numZ_1 : (numZ 1).length = 1 := shortB_1 (by decide)
theorem numZ_0 : (numZ 0).length = 1 := shortB_1 (by decide)
theorem updP_len {key : Bs} {vh : Bool} {vd : Bs} (h : CellOK (key, (vh, vd))) : (updP key vh vd).bytes.length ≤ 100 := by
  rw [updP_bytes]
  have h1 := valB_len vh h.val
  have h2 := valB_len false (d := []) (by decide)
  have h3 := shortB_1 (n := key.length) (by have := h.key; simp only at this; omega)
  have h4 := h.key
  simp only at h1 h4
  simp only [List.length_append, numZ_1, numZ_0, textB]
  omega
theorem updP_good {key : Bs} {vh : Bool} {vd : Bs} (h : CellOK (key, (vh, vd))) : (updP key vh vd).good := by
  have hl := updP_len h
  have hk := h.key
  have hv := h.val
  simp only at hk hv
  refine ⟨⟨by simp [updP], by simp [updP]⟩, ⟨by simp only [updP]; omega, by simp only [updP]; omega⟩, ⟨by simp [updP], by simp [updP]⟩, ⟨by simp [updP], by simp [updP]⟩, ⟨by simp [updP], by simp [updP]⟩, by simp only [updP]; omega, by simp [updP], by simp only [updP]; omega, by simp [updP], by simp [updP], by simp [updP], by simp [updP], by simp [updP], by simp [updP], by simp [updP], by simp [updP], by simp [updP], by simp [updP], by simp [updP], by simp [updP], by omega⟩
set_option maxRecDepth 100000 in
set_option maxHeartbeats 4000000 in
theorem wants_upd (w : World) : Calls Tryz.prog 223 #[.int .i64 1] w fun e w' => e = .returned (.agg #[.bool false, .bool true, .bool false, .bool false, .bool false, .bool true, .bool true, .bool true, .bool true]) ∧ Upd Nowhere w w' := by
  go_enter Tryz.func223, Tryz.ntmps223
  go_wp2_with fail
  refine bodyPost_ret (results_cell_row rfl _ _ w.heap.size 308 #[.bool false, .bool true, .bool false, .bool false, .bool false, .bool true, .bool true, .bool true, .bool true] _ _ rfl ((Blk.new w 308 #[.bool false, .bool true, .bool false, .bool false, .bool false, .bool true, .bool true, .bool true, .bool true]).alloc _) Tryz.underlying308 rfl (by kernel_rfl)) rfl ?_
  exact ⟨rfl, ((Upd.refl Nowhere w).alloc _).alloc _⟩
set_option maxRecDepth 100000 in
set_option maxHeartbeats 4000000 in
theorem spare_upd (key : Bs) (vh : Bool) (vd : Bs) (w : World) : Calls Tryz.prog 171 #[.agg (updA key vh vd)] w (BoolP false w) := by
  have HW6 := Lib.hid wants_upd
  have HU0 := Lib.hid ((Upd.refl Nowhere w).alloc (.cells (updA key vh vd) 39))
  have HB := Lib.hid (Blk.new w 39 (updA key vh vd))
  unfold updA at *
  go_enter Tryz.func171, Tryz.ntmps171
  go_wp2_with fail
  refine (HW6.out _).mono ?_
  rintro e w2 ⟨rfl, hU1⟩
  have hB1 := HB.out.upd hU1 id
  have HU1 := Lib.hid (HU0.out.same hU1)
  have b0 := hB1.cell 0
  have b1 := hB1.cell 1
  have b2 := hB1.cell 2
  have b3 := hB1.cell 3
  have b4 := hB1.cell 4
  have b5 := hB1.cell 5
  have b6 := hB1.cell 6
  have b7 := hB1.cell 7
  have b8 := hB1.cell 8
  have b9 := hB1.cell 9
  have b10 := hB1.cell 10
  have b11 := hB1.cell 11
  have b12 := hB1.cell 12
  have b13 := hB1.cell 13
  have b14 := hB1.cell 14
  have b15 := hB1.cell 15
  have hlt := hB1.lt
  simp only [List.getElem?_toArray, List.getElem?_cons_zero, List.getElem?_cons_succ] at b0 b1 b2 b3 b4 b5 b6 b7 b8 b9 b10 b11 b12 b13 b14 b15
  clear hB1 hU1
  go_wp2_with fail
  go_ret
  exact ⟨rfl, (HU1.out.alloc _).alloc _⟩
set_option maxRecDepth 100000 in
set_option maxHeartbeats 4000000 in
theorem may_upd {key : Bs} {vh : Bool} {vd : Bs} (h : CellOK (key, (vh, vd))) (w : World) : Calls Tryz.prog 122 #[.agg (updA key vh vd)] w (BoolP true w) := by
  have HC0 : Hid (∀ w, Calls Tryz.prog 127 #[.int .i64 1] w (BoolP true w)) := Lib.hid fun w => by
    have := kind_ok 1 w
    rwa [show kindP 1 = true from by decide] at this
  have HC1 := Lib.hid (spare_upd key vh vd)
  have HC2 : Hid (∀ w, Calls Tryz.prog 173 #[strV key] w (BoolP true w)) := Lib.hid fun w => by
    have := reckey_ok key (by have := h.key; simp only at this; omega) w
    rwa [show keyP key = true from by simp only [keyP, Bool.and_eq_true, decide_eq_true_eq]; exact ⟨h.ne, h.key⟩] at this
  have HC3 : Hid (∀ w, Calls Tryz.prog 174 #[.agg #[.bool false, .string ⟨#[]⟩]] w (BoolP true w)) := Lib.hid fun w => by
    have := recvalue_ok false [] (by decide) w
    rwa [show valueP false [] = true from by decide] at this
  have HC4 : Hid (∀ w, Calls Tryz.prog 174 #[.agg #[.bool vh, strV vd]] w (BoolP true w)) := Lib.hid fun w => by
    have := recvalue_ok vh vd (by have := h.val; simp only at this; omega) w
    rwa [show valueP vh vd = true from by
      have h1 := h.val
      have h2 := h.has
      simp only at h1 h2
      simp only [valueP, Bool.and_eq_true, Bool.or_eq_true, decide_eq_true_eq]
      exact ⟨h1, h2⟩] at this
  have HC5 : Hid (∀ w, Calls Tryz.prog 175 #[.int .i64 1, .int .i64 1] w (BoolP true w)) := Lib.hid fun w => by
    have := seq_ok 1 1 w
    rwa [show seqP 1 1 = true from by decide] at this
  have HC6 : Hid (∀ w, Calls Tryz.prog 175 #[.int .i64 0, .int .i64 0] w (BoolP true w)) := Lib.hid fun w => by
    have := seq_ok 0 0 w
    rwa [show seqP 0 0 = true from by decide] at this
  have HC7 : Hid (∀ w, Calls Tryz.prog 176 #[.int .i64 0] w (BoolP true w)) := Lib.hid fun w => by
    have := node_ok 0 w
    rwa [show nodeP 0 = true from by decide] at this
  have HC8 := Lib.hid members_nil
  have HC9 := Lib.hid locks_nil
  have hb0 := (Upd.refl Nowhere w).alloc (.cells (updA key vh vd) 39)
  have HU0 := Lib.hid hb0
  have HB0 := Lib.hid (Blk.new w 39 (updA key vh vd))
  clear hb0 h
  unfold updA at *
  go_enter Tryz.func122, Tryz.ntmps122
  go_wp2_with fail
  refine (HC0.out _).mono ?_
  rintro e w2 ⟨rfl, hU1⟩
  have hB1 := HB0.out.upd hU1 id
  have b0 := hB1.cell 0
  have b1 := hB1.cell 1
  have b2 := hB1.cell 2
  have b3 := hB1.cell 3
  have b4 := hB1.cell 4
  have b5 := hB1.cell 5
  have b6 := hB1.cell 6
  have b7 := hB1.cell 7
  have b8 := hB1.cell 8
  have b9 := hB1.cell 9
  have b10 := hB1.cell 10
  have b11 := hB1.cell 11
  have b12 := hB1.cell 12
  have b13 := hB1.cell 13
  have b14 := hB1.cell 14
  have b15 := hB1.cell 15
  simp only [List.getElem?_toArray, List.getElem?_cons_zero, List.getElem?_cons_succ] at b0 b1 b2 b3 b4 b5 b6 b7 b8 b9 b10 b11 b12 b13 b14 b15
  have HB1 := Lib.hid hB1
  have HU1 := Lib.hid (HU0.out.same hU1)
  clear hB1 hU1
  go_wp2_with fail
  refine (HC1.out _).mono ?_
  rintro e w3 ⟨rfl, hU2⟩
  have hB2 := HB1.out.upd hU2 id
  have b0 := hB2.cell 0
  have b1 := hB2.cell 1
  have b2 := hB2.cell 2
  have b3 := hB2.cell 3
  have b4 := hB2.cell 4
  have b5 := hB2.cell 5
  have b6 := hB2.cell 6
  have b7 := hB2.cell 7
  have b8 := hB2.cell 8
  have b9 := hB2.cell 9
  have b10 := hB2.cell 10
  have b11 := hB2.cell 11
  have b12 := hB2.cell 12
  have b13 := hB2.cell 13
  have b14 := hB2.cell 14
  have b15 := hB2.cell 15
  simp only [List.getElem?_toArray, List.getElem?_cons_zero, List.getElem?_cons_succ] at b0 b1 b2 b3 b4 b5 b6 b7 b8 b9 b10 b11 b12 b13 b14 b15
  have HB2 := Lib.hid hB2
  have HU2 := Lib.hid (HU1.out.same hU2)
  clear hB2 hU2
  go_wp2_with fail
  refine (HC2.out _).mono ?_
  rintro e w4 ⟨rfl, hU3⟩
  have hB3 := HB2.out.upd hU3 id
  have b0 := hB3.cell 0
  have b1 := hB3.cell 1
  have b2 := hB3.cell 2
  have b3 := hB3.cell 3
  have b4 := hB3.cell 4
  have b5 := hB3.cell 5
  have b6 := hB3.cell 6
  have b7 := hB3.cell 7
  have b8 := hB3.cell 8
  have b9 := hB3.cell 9
  have b10 := hB3.cell 10
  have b11 := hB3.cell 11
  have b12 := hB3.cell 12
  have b13 := hB3.cell 13
  have b14 := hB3.cell 14
  have b15 := hB3.cell 15
  simp only [List.getElem?_toArray, List.getElem?_cons_zero, List.getElem?_cons_succ] at b0 b1 b2 b3 b4 b5 b6 b7 b8 b9 b10 b11 b12 b13 b14 b15
  have HB3 := Lib.hid hB3
  have HU3 := Lib.hid (HU2.out.same hU3)
  clear hB3 hU3
  go_wp2_with fail
  refine (HC3.out _).mono ?_
  rintro e w5 ⟨rfl, hU4⟩
  have hB4 := HB3.out.upd hU4 id
  have b0 := hB4.cell 0
  have b1 := hB4.cell 1
  have b2 := hB4.cell 2
  have b3 := hB4.cell 3
  have b4 := hB4.cell 4
  have b5 := hB4.cell 5
  have b6 := hB4.cell 6
  have b7 := hB4.cell 7
  have b8 := hB4.cell 8
  have b9 := hB4.cell 9
  have b10 := hB4.cell 10
  have b11 := hB4.cell 11
  have b12 := hB4.cell 12
  have b13 := hB4.cell 13
  have b14 := hB4.cell 14
  have b15 := hB4.cell 15
  simp only [List.getElem?_toArray, List.getElem?_cons_zero, List.getElem?_cons_succ] at b0 b1 b2 b3 b4 b5 b6 b7 b8 b9 b10 b11 b12 b13 b14 b15
  have HB4 := Lib.hid hB4
  have HU4 := Lib.hid (HU3.out.same hU4)
  clear hB4 hU4
  go_wp2_with fail
  refine (HC4.out _).mono ?_
  rintro e w6 ⟨rfl, hU5⟩
  have hB5 := HB4.out.upd hU5 id
  have b0 := hB5.cell 0
  have b1 := hB5.cell 1
  have b2 := hB5.cell 2
  have b3 := hB5.cell 3
  have b4 := hB5.cell 4
  have b5 := hB5.cell 5
  have b6 := hB5.cell 6
  have b7 := hB5.cell 7
  have b8 := hB5.cell 8
  have b9 := hB5.cell 9
  have b10 := hB5.cell 10
  have b11 := hB5.cell 11
  have b12 := hB5.cell 12
  have b13 := hB5.cell 13
  have b14 := hB5.cell 14
  have b15 := hB5.cell 15
  simp only [List.getElem?_toArray, List.getElem?_cons_zero, List.getElem?_cons_succ] at b0 b1 b2 b3 b4 b5 b6 b7 b8 b9 b10 b11 b12 b13 b14 b15
  have HB5 := Lib.hid hB5
  have HU5 := Lib.hid (HU4.out.same hU5)
  clear hB5 hU5
  go_wp2_with fail
  refine (HC5.out _).mono ?_
  rintro e w7 ⟨rfl, hU6⟩
  have hB6 := HB5.out.upd hU6 id
  have b0 := hB6.cell 0
  have b1 := hB6.cell 1
  have b2 := hB6.cell 2
  have b3 := hB6.cell 3
  have b4 := hB6.cell 4
  have b5 := hB6.cell 5
  have b6 := hB6.cell 6
  have b7 := hB6.cell 7
  have b8 := hB6.cell 8
  have b9 := hB6.cell 9
  have b10 := hB6.cell 10
  have b11 := hB6.cell 11
  have b12 := hB6.cell 12
  have b13 := hB6.cell 13
  have b14 := hB6.cell 14
  have b15 := hB6.cell 15
  simp only [List.getElem?_toArray, List.getElem?_cons_zero, List.getElem?_cons_succ] at b0 b1 b2 b3 b4 b5 b6 b7 b8 b9 b10 b11 b12 b13 b14 b15
  have HB6 := Lib.hid hB6
  have HU6 := Lib.hid (HU5.out.same hU6)
  clear hB6 hU6
  go_wp2_with fail
  refine (HC6.out _).mono ?_
  rintro e w8 ⟨rfl, hU7⟩
  have hB7 := HB6.out.upd hU7 id
  have b0 := hB7.cell 0
  have b1 := hB7.cell 1
  have b2 := hB7.cell 2
  have b3 := hB7.cell 3
  have b4 := hB7.cell 4
  have b5 := hB7.cell 5
  have b6 := hB7.cell 6
  have b7 := hB7.cell 7
  have b8 := hB7.cell 8
  have b9 := hB7.cell 9
  have b10 := hB7.cell 10
  have b11 := hB7.cell 11
  have b12 := hB7.cell 12
  have b13 := hB7.cell 13
  have b14 := hB7.cell 14
  have b15 := hB7.cell 15
  simp only [List.getElem?_toArray, List.getElem?_cons_zero, List.getElem?_cons_succ] at b0 b1 b2 b3 b4 b5 b6 b7 b8 b9 b10 b11 b12 b13 b14 b15
  have HB7 := Lib.hid hB7
  have HU7 := Lib.hid (HU6.out.same hU7)
  clear hB7 hU7
  go_wp2_with fail
  refine (HC6.out _).mono ?_
  rintro e w9 ⟨rfl, hU8⟩
  have hB8 := HB7.out.upd hU8 id
  have b0 := hB8.cell 0
  have b1 := hB8.cell 1
  have b2 := hB8.cell 2
  have b3 := hB8.cell 3
  have b4 := hB8.cell 4
  have b5 := hB8.cell 5
  have b6 := hB8.cell 6
  have b7 := hB8.cell 7
  have b8 := hB8.cell 8
  have b9 := hB8.cell 9
  have b10 := hB8.cell 10
  have b11 := hB8.cell 11
  have b12 := hB8.cell 12
  have b13 := hB8.cell 13
  have b14 := hB8.cell 14
  have b15 := hB8.cell 15
  simp only [List.getElem?_toArray, List.getElem?_cons_zero, List.getElem?_cons_succ] at b0 b1 b2 b3 b4 b5 b6 b7 b8 b9 b10 b11 b12 b13 b14 b15
  have HB8 := Lib.hid hB8
  have HU8 := Lib.hid (HU7.out.same hU8)
  clear hB8 hU8
  go_wp2_with fail
  refine (HC7.out _).mono ?_
  rintro e w10 ⟨rfl, hU9⟩
  have hB9 := HB8.out.upd hU9 id
  have b0 := hB9.cell 0
  have b1 := hB9.cell 1
  have b2 := hB9.cell 2
  have b3 := hB9.cell 3
  have b4 := hB9.cell 4
  have b5 := hB9.cell 5
  have b6 := hB9.cell 6
  have b7 := hB9.cell 7
  have b8 := hB9.cell 8
  have b9 := hB9.cell 9
  have b10 := hB9.cell 10
  have b11 := hB9.cell 11
  have b12 := hB9.cell 12
  have b13 := hB9.cell 13
  have b14 := hB9.cell 14
  have b15 := hB9.cell 15
  simp only [List.getElem?_toArray, List.getElem?_cons_zero, List.getElem?_cons_succ] at b0 b1 b2 b3 b4 b5 b6 b7 b8 b9 b10 b11 b12 b13 b14 b15
  have HB9 := Lib.hid hB9
  have HU9 := Lib.hid (HU8.out.same hU9)
  clear hB9 hU9
  go_wp2_with fail
  refine (HC8.out _).mono ?_
  rintro e w11 ⟨rfl, hU10⟩
  have hB10 := HB9.out.upd hU10 id
  have b0 := hB10.cell 0
  have b1 := hB10.cell 1
  have b2 := hB10.cell 2
  have b3 := hB10.cell 3
  have b4 := hB10.cell 4
  have b5 := hB10.cell 5
  have b6 := hB10.cell 6
  have b7 := hB10.cell 7
  have b8 := hB10.cell 8
  have b9 := hB10.cell 9
  have b10 := hB10.cell 10
  have b11 := hB10.cell 11
  have b12 := hB10.cell 12
  have b13 := hB10.cell 13
  have b14 := hB10.cell 14
  have b15 := hB10.cell 15
  simp only [List.getElem?_toArray, List.getElem?_cons_zero, List.getElem?_cons_succ] at b0 b1 b2 b3 b4 b5 b6 b7 b8 b9 b10 b11 b12 b13 b14 b15
  have HB10 := Lib.hid hB10
  have HU10 := Lib.hid (HU9.out.same hU10)
  clear hB10 hU10
  go_wp2_with fail
  refine (HC9.out _).mono ?_
  rintro e w12 ⟨rfl, hU11⟩
  have hB11 := HB10.out.upd hU11 id
  have b0 := hB11.cell 0
  have b1 := hB11.cell 1
  have b2 := hB11.cell 2
  have b3 := hB11.cell 3
  have b4 := hB11.cell 4
  have b5 := hB11.cell 5
  have b6 := hB11.cell 6
  have b7 := hB11.cell 7
  have b8 := hB11.cell 8
  have b9 := hB11.cell 9
  have b10 := hB11.cell 10
  have b11 := hB11.cell 11
  have b12 := hB11.cell 12
  have b13 := hB11.cell 13
  have b14 := hB11.cell 14
  have b15 := hB11.cell 15
  simp only [List.getElem?_toArray, List.getElem?_cons_zero, List.getElem?_cons_succ] at b0 b1 b2 b3 b4 b5 b6 b7 b8 b9 b10 b11 b12 b13 b14 b15
  have HB11 := Lib.hid hB11
  have HU11 := Lib.hid (HU10.out.same hU11)
  clear hB11 hU11
  go_wp2_with fail
  go_ret
  exact ⟨rfl, HU11.out⟩
set_option maxRecDepth 100000 in
set_option maxHeartbeats 4000000 in
theorem enc_upd {key : Bs} {vh : Bool} {vd : Bs} (h : CellOK (key, (vh, vd))) (w0 : World) : EncAt w0 ((updP key vh vd).rv nilS) (updP key vh vd).bytes 0 := by
  intro w _
  rw [updA_eq]
  have hlen := updP_len h
  have HM := Lib.hid (may_upd h)
  have hby : ∀ w, Calls Tryz.prog 123 #[.agg (updA key vh vd)] w fun e w' => ∃ A c, e = .returned (.slice A (updP key vh vd).bytes.length c) ∧ OwnB w.heap.size w' (.slice A (updP key vh vd).bytes.length c) (updP key vh vd).bytes ∧ Upd Nowhere w w' := fun w => by
    have := bytes_ok (w := w) (updP key vh vd) nilS (by simp [updP, kindP]) (updP_nil w key vh vd) (updP_good h)
    rwa [updA_eq] at this
  have HBY := Lib.hid hby
  clear hby h
  generalize (updP key vh vd).bytes = bs at *
  have hlI : ((bs.length : Nat) : Int) ≤ 100 := by omega
  have hlN : ¬ 4096 < bs.length := by omega
  have HU0 := Lib.hid ((Upd.refl Nowhere w).alloc (.cells (updA key vh vd) 39))
  have HB := Lib.hid (Blk.new w 39 (updA key vh vd))
  unfold updA at *
  clear hlen
  go_enter Tryz.func78, Tryz.ntmps78
  go_wp2_with fail
  refine (HM.out _).mono ?_
  rintro e w2 ⟨rfl, hU1⟩
  have hB1 := HB.out.upd hU1 id
  have b0 := hB1.cell 0
  have b1 := hB1.cell 1
  have b2 := hB1.cell 2
  have b3 := hB1.cell 3
  have b4 := hB1.cell 4
  have b5 := hB1.cell 5
  have b6 := hB1.cell 6
  have b7 := hB1.cell 7
  have b8 := hB1.cell 8
  have b9 := hB1.cell 9
  have b10 := hB1.cell 10
  have b11 := hB1.cell 11
  have b12 := hB1.cell 12
  have b13 := hB1.cell 13
  have b14 := hB1.cell 14
  have b15 := hB1.cell 15
  simp only [List.getElem?_toArray, List.getElem?_cons_zero, List.getElem?_cons_succ] at b0 b1 b2 b3 b4 b5 b6 b7 b8 b9 b10 b11 b12 b13 b14 b15
  have HU1 := Lib.hid (HU0.out.same hU1)
  clear hB1 hU1
  go_wp2_with fail
  refine (HBY.out _).mono ?_
  rintro e w3 ⟨A, c, rfl, hO3, hU3⟩
  have HO3 := Lib.hid hO3
  have HU3 := Lib.hid hU3
  clear hO3 hU3
  go_wp2_with fail
  go_ret2
  exact ⟨A, c, rfl, HO3.out.far fun k hk => Nat.le_trans HU1.out.size (HO3.out.new k hk), HU1.out.same HU3.out⟩
end Go.Proofs.YtdfccegeihfdpaaGreatDoor
