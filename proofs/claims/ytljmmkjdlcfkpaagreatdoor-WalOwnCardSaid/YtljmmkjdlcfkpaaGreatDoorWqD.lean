/-
  Layer 7: a row may be.
-/
import Derived.Test.YtljmmkjdlcfkpaaGreatDoorWqC
namespace Go.Proofs.YtljmmkjdlcfkpaaGreatDoor
open Go Go.RowKit

set_option maxRecDepth 100000 in
set_option maxHeartbeats 4000000 in
theorem row_ok (x : RowW) {w0 w : World} (hu : Upd Nowhere w0 w) (hE : x.old w0) (hn : x.p.mem.length ≤ 90000) (hn2 : x.p.loc.length ≤ 90000) : Calls Tryz.prog 142 #[elemR x] w (BoolP (RowP.may x.p) w) := by
  have hm : ∀ w', Upd Nowhere w w' → Calls Tryz.prog 108 #[.slice x.mem.1 x.mem.2.1 x.mem.2.2] w' (BoolP (membersP x.p.mem) w') := fun w' h' => members_ok (hE.1.upd (hu.same h') fun _ _ => id) hn
  have hl : ∀ w', Upd Nowhere w w' → Calls Tryz.prog 109 #[.slice x.loc.1 x.loc.2.1 x.loc.2.2] w' (BoolP (locksP x.p.loc) w') := fun w' h' => reclocks_ok (hE.2.upd (hu.same h') fun _ _ => id)  hn2
  have HU0 := Lib.hid ((Upd.refl Nowhere w).alloc (.cells #[.int .i64 x.p.tx, .int .i64 x.p.state, .int .i64 x.p.first, .int .i64 x.p.last, .int .i64 x.p.undo, .int .i64 x.p.coord, .slice x.mem.1 x.mem.2.1 x.mem.2.2, .slice x.loc.1 x.loc.2.1 x.loc.2.2] 105))
  have HB0 := Lib.hid (Blk.new w 105 #[.int .i64 x.p.tx, .int .i64 x.p.state, .int .i64 x.p.first, .int .i64 x.p.last, .int .i64 x.p.undo, .int .i64 x.p.coord, .slice x.mem.1 x.mem.2.1 x.mem.2.2, .slice x.loc.1 x.loc.2.1 x.loc.2.2])
  have HM := Lib.hid hm
  have HL := Lib.hid hl
  clear hm hl hE hu hn hn2
  unfold elemR
  go_enter Tryz.func142, Tryz.ntmps142
  go_wp2_with fail
  refine Calls.mono (seq_ok x.p.tx 1 _) ?_
  rintro e w1 ⟨rfl, hU1⟩
  have hB1 := HB0.out.upd hU1 id
  have b0 := hB1.cell 0
  have b1 := hB1.cell 1
  have b2 := hB1.cell 2
  have b3 := hB1.cell 3
  have b4 := hB1.cell 4
  have b5 := hB1.cell 5
  have b6 := hB1.cell 6
  have b7 := hB1.cell 7
  simp only [List.getElem?_toArray, List.getElem?_cons_zero, List.getElem?_cons_succ] at b0 b1 b2 b3 b4 b5 b6 b7
  have HB1 := Lib.hid hB1
  have HU1 := Lib.hid (HU0.out.same hU1)
  clear hB1 hU1
  cases hs0 : seqP x.p.tx 1 with
  | false =>
    have S := Lib.hid hs0
    clear hs0
    go_wp2_with fail
    go_ret
    exact ⟨by simp [RowP.may, S.out], HU1.out⟩
  | true =>
    have S0 := Lib.hid hs0
    clear hs0
    by_cases h1 : 1 ≤ x.p.state
    case neg =>
      have d1 : decide (1 ≤ x.p.state) = false := by simpa using h1
      have D := Lib.hid d1
      go_wp2_with fail
      go_ret
      exact ⟨by simp [RowP.may, S0.out, D.out], HU1.out⟩
    have d1 : decide (1 ≤ x.p.state) = true := by simpa using h1
    have D1 := Lib.hid d1
    by_cases h2 : x.p.state ≤ 4
    case neg =>
      have d2 : decide (x.p.state ≤ 4) = false := by simpa using h2
      have D := Lib.hid d2
      go_wp2_with fail
      go_ret
      exact ⟨by simp [RowP.may, S0.out, D1.out, D.out], HU1.out⟩
    have d2 : decide (x.p.state ≤ 4) = true := by simpa using h2
    have D2 := Lib.hid d2
    go_wp2_with fail
    refine Calls.mono (seq_ok x.p.first 0 _) ?_
    rintro e w2 ⟨rfl, hU2⟩
    have hB2 := HB1.out.upd hU2 id
    have b0 := hB2.cell 0
    have b1 := hB2.cell 1
    have b2 := hB2.cell 2
    have b3 := hB2.cell 3
    have b4 := hB2.cell 4
    have b5 := hB2.cell 5
    have b6 := hB2.cell 6
    have b7 := hB2.cell 7
    simp only [List.getElem?_toArray, List.getElem?_cons_zero, List.getElem?_cons_succ] at b0 b1 b2 b3 b4 b5 b6 b7
    have HB2 := Lib.hid hB2
    have HU2 := Lib.hid (HU1.out.same hU2)
    clear hB2 hU2
    cases hs3 : seqP x.p.first 0 with
    | false =>
      have S := Lib.hid hs3
      clear hs3
      go_wp2_with fail
      go_ret
      exact ⟨by simp [RowP.may, S0.out, D1.out, D2.out, S.out], HU2.out⟩
    | true =>
      have S3 := Lib.hid hs3
      clear hs3
      go_wp2_with fail
      refine Calls.mono (seq_ok x.p.last 0 _) ?_
      rintro e w3 ⟨rfl, hU3⟩
      have hB3 := HB2.out.upd hU3 id
      have b0 := hB3.cell 0
      have b1 := hB3.cell 1
      have b2 := hB3.cell 2
      have b3 := hB3.cell 3
      have b4 := hB3.cell 4
      have b5 := hB3.cell 5
      have b6 := hB3.cell 6
      have b7 := hB3.cell 7
      simp only [List.getElem?_toArray, List.getElem?_cons_zero, List.getElem?_cons_succ] at b0 b1 b2 b3 b4 b5 b6 b7
      have HB3 := Lib.hid hB3
      have HU3 := Lib.hid (HU2.out.same hU3)
      clear hB3 hU3
      cases hs4 : seqP x.p.last 0 with
      | false =>
        have S := Lib.hid hs4
        clear hs4
        go_wp2_with fail
        go_ret
        exact ⟨by simp [RowP.may, S0.out, D1.out, D2.out, S3.out, S.out], HU3.out⟩
      | true =>
        have S4 := Lib.hid hs4
        clear hs4
        go_wp2_with fail
        refine Calls.mono (seq_ok x.p.undo 0 _) ?_
        rintro e w4 ⟨rfl, hU4⟩
        have hB4 := HB3.out.upd hU4 id
        have b0 := hB4.cell 0
        have b1 := hB4.cell 1
        have b2 := hB4.cell 2
        have b3 := hB4.cell 3
        have b4 := hB4.cell 4
        have b5 := hB4.cell 5
        have b6 := hB4.cell 6
        have b7 := hB4.cell 7
        simp only [List.getElem?_toArray, List.getElem?_cons_zero, List.getElem?_cons_succ] at b0 b1 b2 b3 b4 b5 b6 b7
        have HB4 := Lib.hid hB4
        have HU4 := Lib.hid (HU3.out.same hU4)
        clear hB4 hU4
        cases hs5 : seqP x.p.undo 0 with
        | false =>
          have S := Lib.hid hs5
          clear hs5
          go_wp2_with fail
          go_ret
          exact ⟨by simp [RowP.may, S0.out, D1.out, D2.out, S3.out, S4.out, S.out], HU4.out⟩
        | true =>
          have S5 := Lib.hid hs5
          clear hs5
          go_wp2_with fail
          refine Calls.mono (node_ok x.p.coord _) ?_
          rintro e w5 ⟨rfl, hU5⟩
          have hB5 := HB4.out.upd hU5 id
          have b0 := hB5.cell 0
          have b1 := hB5.cell 1
          have b2 := hB5.cell 2
          have b3 := hB5.cell 3
          have b4 := hB5.cell 4
          have b5 := hB5.cell 5
          have b6 := hB5.cell 6
          have b7 := hB5.cell 7
          simp only [List.getElem?_toArray, List.getElem?_cons_zero, List.getElem?_cons_succ] at b0 b1 b2 b3 b4 b5 b6 b7
          have HB5 := Lib.hid hB5
          have HU5 := Lib.hid (HU4.out.same hU5)
          clear hB5 hU5
          cases hs6 : nodeP x.p.coord with
          | false =>
            have S := Lib.hid hs6
            clear hs6
            go_wp2_with fail
            go_ret
            exact ⟨by simp [RowP.may, S0.out, D1.out, D2.out, S3.out, S4.out, S5.out, S.out], HU5.out⟩
          | true =>
            have S6 := Lib.hid hs6
            clear hs6
            go_wp2_with fail
            refine Calls.mono (HM.out _ HU5.out) ?_
            rintro e w6 ⟨rfl, hU6⟩
            have hB6 := HB5.out.upd hU6 id
            have b0 := hB6.cell 0
            have b1 := hB6.cell 1
            have b2 := hB6.cell 2
            have b3 := hB6.cell 3
            have b4 := hB6.cell 4
            have b5 := hB6.cell 5
            have b6 := hB6.cell 6
            have b7 := hB6.cell 7
            simp only [List.getElem?_toArray, List.getElem?_cons_zero, List.getElem?_cons_succ] at b0 b1 b2 b3 b4 b5 b6 b7
            have HB6 := Lib.hid hB6
            have HU6 := Lib.hid (HU5.out.same hU6)
            clear hB6 hU6
            cases hs7 : membersP x.p.mem with
            | false =>
              have S := Lib.hid hs7
              clear hs7
              go_wp2_with fail
              go_ret
              exact ⟨by simp [RowP.may, S0.out, D1.out, D2.out, S3.out, S4.out, S5.out, S6.out, S.out], HU6.out⟩
            | true =>
              have S7 := Lib.hid hs7
              clear hs7
              go_wp2_with fail
              refine Calls.mono (HL.out _ HU6.out) ?_
              rintro e w7 ⟨rfl, hU7⟩
              have hB7 := HB6.out.upd hU7 id
              have b0 := hB7.cell 0
              have b1 := hB7.cell 1
              have b2 := hB7.cell 2
              have b3 := hB7.cell 3
              have b4 := hB7.cell 4
              have b5 := hB7.cell 5
              have b6 := hB7.cell 6
              have b7 := hB7.cell 7
              simp only [List.getElem?_toArray, List.getElem?_cons_zero, List.getElem?_cons_succ] at b0 b1 b2 b3 b4 b5 b6 b7
              have HB7 := Lib.hid hB7
              have HU7 := Lib.hid (HU6.out.same hU7)
              clear hB7 hU7
              cases hs8 : locksP x.p.loc with
              | false =>
                have S := Lib.hid hs8
                clear hs8
                go_wp2_with fail
                go_ret
                exact ⟨by simp [RowP.may, S0.out, D1.out, D2.out, S3.out, S4.out, S5.out, S6.out, S7.out, S.out], HU7.out⟩
              | true =>
                have S8 := Lib.hid hs8
                clear hs8
                go_wp2_with fail
                go_ret
                exact ⟨by simp [RowP.may, S0.out, D1.out, D2.out, S3.out, S4.out, S5.out, S6.out, S7.out, S8.out], HU7.out⟩
end Go.Proofs.YtljmmkjdlcfkpaaGreatDoor
