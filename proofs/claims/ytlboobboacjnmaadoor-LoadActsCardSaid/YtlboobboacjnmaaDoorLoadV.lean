/-
  LoadActs returns true for every seed and every mix.
-/
import Derived.Test.YtlboobboacjnmaaDoorLoadS
import Derived.Test.YtlboobboacjnmaaDoorLoadU
import Derived.Deep.RegionHeld3
namespace Go.Proofs.YtlboobboacjnmaaDoor
open Go Go.RowKit

set_option maxHeartbeats 4000000 in
set_option maxRecDepth 100000 in
theorem law_no (x : Int) (m : MixD) (w : World) (hm : mayB m = false) : Calls Tryd.prog 3 #[.int .u64 x, m.val] w fun e w' => e = .returned (.bool true) ∧ Upd Nowhere w w' := by
  have HU := Lib.hid ((Upd.refl Nowhere w).alloc (.cells #[.int .i64 m.nodes, .int .i64 m.txs, .int .i64 m.steps, .int .i64 m.keys, .int .i64 m.writes, .int .i64 m.quits, .int .i64 m.drops, .int .i64 m.falls] 24))
  have HB := Lib.hid (Blk.new w 24 #[.int .i64 m.nodes, .int .i64 m.txs, .int .i64 m.steps, .int .i64 m.keys, .int .i64 m.writes, .int .i64 m.quits, .int .i64 m.drops, .int .i64 m.falls])
  have hb := HB.out.cell
  unfold MixD.val
  go_enter Tryd.func3, Tryd.ntmps3
  go_wp2_with fail
  refine (acts_no x m _ hm).mono ?_
  rintro e w1 ⟨rfl, hu1⟩
  have HB1 := Lib.hid (HB.out.upd hu1 id)
  have hb1 := HB1.out.cell
  have HU1 := Lib.hid (HU.out.trans hu1 fun _ _ h => h)
  clear hu1 hb HB HU
  go_wp2_with fail
  refine (acts_no x m _ hm).mono ?_
  rintro e w2 ⟨rfl, hu2⟩
  have HB2 := Lib.hid (HB1.out.upd hu2 id)
  have hb2 := HB2.out.cell
  have HU2 := Lib.hid (HU1.out.trans hu2 fun _ _ h => h)
  clear hu2 hb1 HB1 HU1
  go_wp2_with fail
  refine (rmay_ok m _).mono ?_
  rintro e w3 ⟨rfl, hu3⟩
  rw [hm]
  have HB3 := Lib.hid (HB2.out.upd hu3 id)
  have hb3 := HB3.out.cell
  have HU3 := Lib.hid (HU2.out.trans hu3 fun _ _ h => h)
  clear hu3 hb2 HB2 HU2
  go_wp2_with fail
  refine (lmay_ok m _).mono ?_
  rintro e w4 ⟨rfl, hu4⟩
  rw [hm]
  have HU4 := Lib.hid (HU3.out.trans hu4 fun _ _ h => h)
  clear hu4 hb3 HB3 HU3
  go_wp2_with fail
  refine (awake_ok _).mono ?_
  rintro e w5 ⟨rfl, hu5⟩
  have HU5 := Lib.hid (HU4.out.trans hu5 fun _ _ h => h)
  clear hu5 HU4
  go_wp2_with fail
  go_ret
  exact ⟨rfl, HU5.out⟩

set_option maxHeartbeats 16000000 in
set_option maxRecDepth 100000 in
theorem law_yes (x : Int) (m : MixD) (w : World) (hm : mayB m = true) : Calls Tryd.prog 3 #[.int .u64 x, m.val] w fun e w' => e = .returned (.bool true) ∧ Upd Nowhere w w' := by
  have HU := Lib.hid ((Upd.refl Nowhere w).alloc (.cells #[.int .i64 m.nodes, .int .i64 m.txs, .int .i64 m.steps, .int .i64 m.keys, .int .i64 m.writes, .int .i64 m.quits, .int .i64 m.drops, .int .i64 m.falls] 24))
  have HB := Lib.hid (Blk.new w 24 #[.int .i64 m.nodes, .int .i64 m.txs, .int .i64 m.steps, .int .i64 m.keys, .int .i64 m.writes, .int .i64 m.quits, .int .i64 m.drops, .int .i64 m.falls])
  have hb := HB.out.cell
  unfold MixD.val
  go_enter Tryd.func3, Tryd.ntmps3
  go_wp2_with fail
  refine (acts_ok x m _ hm).mono ?_
  rintro e w1 ⟨A1, n1, rfl, ho1, hu1⟩
  have HB1 := Lib.hid (HB.out.upd hu1 id)
  have hb1 := HB1.out.cell
  have HU1 := Lib.hid (HU.out.trans hu1 fun _ _ h => h)
  have HO1 := Lib.hid ho1
  clear hu1 hb HB HU ho1
  go_wp2_with fail
  refine (acts_ok x m _ hm).mono ?_
  rintro e w2 ⟨A2, n2, rfl, ho2, hu2⟩
  have HB2 := Lib.hid (HB1.out.upd hu2 id)
  have hb2 := HB2.out.cell
  have HU2 := Lib.hid (HU1.out.trans hu2 fun _ _ h => h)
  have HP1 := Lib.hid (own_upd HO1.out hu2 fun _ _ => id)
  have HP2 := Lib.hid ho2
  clear hu2 hb1 HB1 HU1 ho2 HO1
  go_wp2_with fail
  refine (rmay_ok m _).mono ?_
  rintro e w3 ⟨rfl, hu3⟩
  rw [hm]
  have HB3 := Lib.hid (HB2.out.upd hu3 id)
  have hb3 := HB3.out.cell
  have HU3 := Lib.hid (HU2.out.trans hu3 fun _ _ h => h)
  have HQ1 := Lib.hid (own_upd HP1.out hu3 fun _ _ => id)
  have HQ2 := Lib.hid (own_upd HP2.out hu3 fun _ _ => id)
  clear hu3 hb2 HB2 HU2 HP1 HP2
  go_wp2_with fail
  refine (racts_ok x m _ hm).mono ?_
  rintro e w4 ⟨A3, n3, rfl, ho4, hu4⟩
  have HB4 := Lib.hid (HB3.out.upd hu4 id)
  have hb4 := HB4.out.cell
  have HU4 := Lib.hid (HU3.out.trans hu4 fun _ _ h => h)
  have HR1 := Lib.hid (own_upd HQ1.out hu4 fun _ _ => id)
  have HR2 := Lib.hid (own_upd HQ2.out hu4 fun _ _ => id)
  have HR3 := Lib.hid ho4
  clear hu4 hb3 HB3 HU3 HQ1 HQ2 ho4
  go_wp2_with fail
  refine (lmay_ok m _).mono ?_
  rintro e w5 ⟨rfl, hu5⟩
  rw [hm]
  have HU5 := Lib.hid (HU4.out.trans hu5 fun _ _ h => h)
  have HS1 := Lib.hid (own_upd HR1.out hu5 fun _ _ => id)
  have HS2 := Lib.hid (own_upd HR2.out hu5 fun _ _ => id)
  have HS3 := Lib.hid (own_upd HR3.out hu5 fun _ _ => id)
  clear hu5 hb4 HB4 HU4 HR1 HR2 HR3
  have hLB : (acL m (x0 x) m.txs.toNat).length ≤ 5000 := by
    obtain ⟨_, _, _, _, hs1, _, ht1⟩ := may_parts m hm
    have := acL_length m (x0 x) hs1 m.txs.toNat
    omega
  generalize acL m (x0 x) m.txs.toNat = L at *
  go_wp2_with fail
  go_loopw [10] (fun t wr => ∃ i : Nat, i ≤ L.length ∧ t = .int .i64 i ∧ Upd Nowhere w5 wr) (fun t _ => L.length - (intOf t).toNat)
  case atStart => exact ⟨0, by omega, rfl, Upd.refl _ _⟩
  case round =>
    obtain ⟨i, hi, rfl, hu⟩ := hrel
    by_cases hlt : i < L.length
    · obtain ⟨a, ha⟩ : ∃ a, L[i]? = some a := ⟨_, List.getElem?_eq_getElem hlt⟩
      have ho1 := own_upd HS1.out hu fun _ _ => id
      have ho2 := own_upd HS2.out hu fun _ _ => id
      have ho3 := own_upd HS3.out hu fun _ _ => id
      obtain ⟨G1, _, he1, _⟩ := own_cells ho1 (by omega)
      cases he1
      obtain ⟨G2, _, he2, _⟩ := own_cells ho2 (by omega)
      cases he2
      obtain ⟨G3, _, he3, _⟩ := own_cells ho3 (by omega)
      cases he3
      obtain ⟨p0, p1, p2, p3, p4, p5, p6, p7, p8, p9, p10⟩ := row_act ho1 (by omega) ha
      obtain ⟨q0, q1, q2, q3, q4, q5, q6, q7, q8, q9, q10⟩ := row_act ho3 (by omega) ha
      have HV := Lib.hid hu
      have HHA := Lib.hid ha
      have HLT := Lib.hid hlt
      have hi' : (i : Int) < (L.length : Nat) := by omega
      clear hu ho1 ho2 ho3 ha
      go_upto_region 11 with (fail)
      go_cut [100] (fun t wz => t = .bool false ∧ Upd Nowhere w5 wz)
      case first =>
        obtain ⟨r0, r1, r2, r3, r4, r5, r6, r7, r8, r9, r10⟩ := row_act (own_upd HS2.out HV.out fun _ _ => id) (Nat.lt_of_le_of_lt (Nat.zero_le _) HLT.out) HHA.out
        have HS0 : Hid (∀ w' : World, Upd Nowhere w5 w' → (w'.cell? ⟨G1, i * 11, none⟩ = some (.int .i64 a.kind) ∧ w'.cell? ⟨G1, i * 11 + 1, none⟩ = some (.int .i64 a.n) ∧ w'.cell? ⟨G1, i * 11 + 2, none⟩ = some (.int .i64 0) ∧ w'.cell? ⟨G1, i * 11 + 3, none⟩ = some (.int .u8 0) ∧ w'.cell? ⟨G1, i * 11 + 4, none⟩ = some (.int .i64 a.tx) ∧ w'.cell? ⟨G1, i * 11 + 5, none⟩ = some (.string a.key) ∧ w'.cell? ⟨G1, i * 11 + 6, none⟩ = some (.bool a.has) ∧ w'.cell? ⟨G1, i * 11 + 7, none⟩ = some (.string a.data) ∧ w'.cell? ⟨G1, i * 11 + 8, none⟩ = some (.slice none 0 0) ∧ w'.cell? ⟨G1, i * 11 + 9, none⟩ = some (.bool false) ∧ w'.cell? ⟨G1, i * 11 + 10, none⟩ = some (.int .i64 0) ∧ w'.cell? ⟨G2, i * 11, none⟩ = some (.int .i64 a.kind) ∧ w'.cell? ⟨G2, i * 11 + 1, none⟩ = some (.int .i64 a.n) ∧ w'.cell? ⟨G2, i * 11 + 2, none⟩ = some (.int .i64 0) ∧ w'.cell? ⟨G2, i * 11 + 3, none⟩ = some (.int .u8 0) ∧ w'.cell? ⟨G2, i * 11 + 4, none⟩ = some (.int .i64 a.tx) ∧ w'.cell? ⟨G2, i * 11 + 5, none⟩ = some (.string a.key) ∧ w'.cell? ⟨G2, i * 11 + 6, none⟩ = some (.bool a.has) ∧ w'.cell? ⟨G2, i * 11 + 7, none⟩ = some (.string a.data) ∧ w'.cell? ⟨G2, i * 11 + 8, none⟩ = some (.slice none 0 0) ∧ w'.cell? ⟨G2, i * 11 + 9, none⟩ = some (.bool false) ∧ w'.cell? ⟨G2, i * 11 + 10, none⟩ = some (.int .i64 0) ∧ w'.cell? ⟨G3, i * 11, none⟩ = some (.int .i64 a.kind) ∧ w'.cell? ⟨G3, i * 11 + 1, none⟩ = some (.int .i64 a.n) ∧ w'.cell? ⟨G3, i * 11 + 2, none⟩ = some (.int .i64 0) ∧ w'.cell? ⟨G3, i * 11 + 3, none⟩ = some (.int .u8 0) ∧ w'.cell? ⟨G3, i * 11 + 4, none⟩ = some (.int .i64 a.tx) ∧ w'.cell? ⟨G3, i * 11 + 5, none⟩ = some (.string a.key) ∧ w'.cell? ⟨G3, i * 11 + 6, none⟩ = some (.bool a.has) ∧ w'.cell? ⟨G3, i * 11 + 7, none⟩ = some (.string a.data) ∧ w'.cell? ⟨G3, i * 11 + 8, none⟩ = some (.slice none 0 0) ∧ w'.cell? ⟨G3, i * 11 + 9, none⟩ = some (.bool false) ∧ w'.cell? ⟨G3, i * 11 + 10, none⟩ = some (.int .i64 0))) := Lib.hid fun w' hW => by
          obtain ⟨x0, x1, x2, x3, x4, x5, x6, x7, x8, x9, x10⟩ := row_act (own_upd HS1.out hW fun _ _ => id) (Nat.lt_of_le_of_lt (Nat.zero_le _) HLT.out) HHA.out
          obtain ⟨y0, y1, y2, y3, y4, y5, y6, y7, y8, y9, y10⟩ := row_act (own_upd HS2.out hW fun _ _ => id) (Nat.lt_of_le_of_lt (Nat.zero_le _) HLT.out) HHA.out
          obtain ⟨z0, z1, z2, z3, z4, z5, z6, z7, z8, z9, z10⟩ := row_act (own_upd HS3.out hW fun _ _ => id) (Nat.lt_of_le_of_lt (Nat.zero_le _) HLT.out) HHA.out
          exact ⟨x0, x1, x2, x3, x4, x5, x6, x7, x8, x9, x10, y0, y1, y2, y3, y4, y5, y6, y7, y8, y9, y10, z0, z1, z2, z3, z4, z5, z6, z7, z8, z9, z10⟩
        clear p0 p1 p2 p3 p4 p5 p6 p7 p8 p9 p10 q0 q1 q2 q3 q4 q5 q6 q7 q8 q9 q10 r0 r1 r2 r3 r4 r5 r6 r7 r8 r9 r10
        go_region_held3 (fun w' => w'.cell? ⟨G1, i * 11, none⟩ = some (.int .i64 a.kind) ∧ w'.cell? ⟨G1, i * 11 + 1, none⟩ = some (.int .i64 a.n) ∧ w'.cell? ⟨G1, i * 11 + 2, none⟩ = some (.int .i64 0) ∧ w'.cell? ⟨G1, i * 11 + 3, none⟩ = some (.int .u8 0) ∧ w'.cell? ⟨G1, i * 11 + 4, none⟩ = some (.int .i64 a.tx) ∧ w'.cell? ⟨G1, i * 11 + 5, none⟩ = some (.string a.key) ∧ w'.cell? ⟨G1, i * 11 + 6, none⟩ = some (.bool a.has) ∧ w'.cell? ⟨G1, i * 11 + 7, none⟩ = some (.string a.data) ∧ w'.cell? ⟨G1, i * 11 + 8, none⟩ = some (.slice none 0 0) ∧ w'.cell? ⟨G1, i * 11 + 9, none⟩ = some (.bool false) ∧ w'.cell? ⟨G1, i * 11 + 10, none⟩ = some (.int .i64 0) ∧ w'.cell? ⟨G2, i * 11, none⟩ = some (.int .i64 a.kind) ∧ w'.cell? ⟨G2, i * 11 + 1, none⟩ = some (.int .i64 a.n) ∧ w'.cell? ⟨G2, i * 11 + 2, none⟩ = some (.int .i64 0) ∧ w'.cell? ⟨G2, i * 11 + 3, none⟩ = some (.int .u8 0) ∧ w'.cell? ⟨G2, i * 11 + 4, none⟩ = some (.int .i64 a.tx) ∧ w'.cell? ⟨G2, i * 11 + 5, none⟩ = some (.string a.key) ∧ w'.cell? ⟨G2, i * 11 + 6, none⟩ = some (.bool a.has) ∧ w'.cell? ⟨G2, i * 11 + 7, none⟩ = some (.string a.data) ∧ w'.cell? ⟨G2, i * 11 + 8, none⟩ = some (.slice none 0 0) ∧ w'.cell? ⟨G2, i * 11 + 9, none⟩ = some (.bool false) ∧ w'.cell? ⟨G2, i * 11 + 10, none⟩ = some (.int .i64 0) ∧ w'.cell? ⟨G3, i * 11, none⟩ = some (.int .i64 a.kind) ∧ w'.cell? ⟨G3, i * 11 + 1, none⟩ = some (.int .i64 a.n) ∧ w'.cell? ⟨G3, i * 11 + 2, none⟩ = some (.int .i64 0) ∧ w'.cell? ⟨G3, i * 11 + 3, none⟩ = some (.int .u8 0) ∧ w'.cell? ⟨G3, i * 11 + 4, none⟩ = some (.int .i64 a.tx) ∧ w'.cell? ⟨G3, i * 11 + 5, none⟩ = some (.string a.key) ∧ w'.cell? ⟨G3, i * 11 + 6, none⟩ = some (.bool a.has) ∧ w'.cell? ⟨G3, i * 11 + 7, none⟩ = some (.string a.data) ∧ w'.cell? ⟨G3, i * 11 + 8, none⟩ = some (.slice none 0 0) ∧ w'.cell? ⟨G3, i * 11 + 9, none⟩ = some (.bool false) ∧ w'.cell? ⟨G3, i * 11 + 10, none⟩ = some (.int .i64 0)) (first | exact HS0.out _ HV.out.drew | exact HS0.out _ HV6.out | exact HS0.out _ HE.out)
          (first
            | (go_at_call 9
               refine (same_ok a _).mono ?_
               rintro e w7 ⟨rfl, hu7⟩
               have HE := Lib.hid (HV6.out.trans hu7 fun _ _ h => h)
               clear hu7)
            | (go_at_call 9
               refine (same_ok a _).mono ?_
               rintro e w6 ⟨rfl, hu6⟩
               have HV6 := Lib.hid (HV.out.drew.trans hu6 fun _ _ h => h)
               clear hu6))
        all_goals
          go_wp2_with fail
          go_meet
          exact ⟨rfl, HE.out⟩
      case rest =>
        obtain ⟨rfl, hu⟩ := hcut
        have HW := Lib.hid hu
        clear hu p0 p1 p2 p3 p4 p5 p6 p7 p8 p9 p10 q0 q1 q2 q3 q4 q5 q6 q7 q8 q9 q10
        go_wp2_with fail
        go_roundw
        case rel => exact ⟨i + 1, by omega, by go_num, HW.out⟩
        case measure => simp [intOf]; omega
    · have e : ¬ (i : Int) < (L.length : Nat) := by omega
      have HV := Lib.hid hu
      clear hu
      go_wp2_with fail
      refine (awake_ok _).mono ?_
      rintro e w6 ⟨rfl, hu6⟩
      have HU6 := Lib.hid ((HU5.out.trans HV.out fun _ _ h => h).trans hu6 fun _ _ h => h)
      clear hu6
      go_wp2_with fail
      go_ret
      exact ⟨rfl, HU6.out⟩
end Go.Proofs.YtlboobboacjnmaaDoor
