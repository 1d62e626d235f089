/-
  Whether a mix may be, on both sides.
-/
import Derived.Test.YtlboobboacjnmaaDoorLoadB
namespace Go.Proofs.YtlboobboacjnmaaDoor
open Go Go.RowKit

def inR (n a b : Int) : Bool := decide (a ≤ n) && decide (n ≤ b)
def mayB (m : MixD) : Bool := inR m.nodes 1 8 && inR m.txs 0 50 && inR m.steps 0 20 && inR m.keys 1 100 && inR m.writes 0 100 && inR m.quits 0 100 && inR m.drops 0 100 && inR m.falls 0 100
def MixD.val (m : MixD) : Value := .agg #[.int .i64 m.nodes, .int .i64 m.txs, .int .i64 m.steps, .int .i64 m.keys, .int .i64 m.writes, .int .i64 m.quits, .int .i64 m.drops, .int .i64 m.falls]
theorem in_ok (n a b : Int) (w : World) : Calls Tryd.prog 12 #[.int .i64 n, .int .i64 a, .int .i64 b] w fun e w' => e = .returned (.bool (inR n a b)) ∧ w' = w := by
  by_cases h1 : a ≤ n
  · go_enter Tryd.func12, Tryd.ntmps12
    go_wp2
    go_ret
    refine ⟨?_, rfl⟩
    simp [inR, h1]
  · have h2 : decide (a ≤ n) = false := decide_eq_false h1
    go_enter Tryd.func12, Tryd.ntmps12
    go_wp2
    go_ret
    refine ⟨?_, rfl⟩
    simp [inR, h2]
set_option maxHeartbeats 4000000 in
set_option maxRecDepth 100000 in
theorem rmay_ok (m : MixD) (w : World) : Calls Tryd.prog 5 #[m.val] w fun e w' => e = .returned (.bool (mayB m)) ∧ Upd Nowhere w w' := by
  have hu : Upd Nowhere w (w.alloc (.cells #[.int .i64 m.nodes, .int .i64 m.txs, .int .i64 m.steps, .int .i64 m.keys, .int .i64 m.writes, .int .i64 m.quits, .int .i64 m.drops, .int .i64 m.falls] 24)) := (Upd.refl _ w).alloc _
  have HU := Lib.hid hu
  have hb := (Blk.new w 24 #[.int .i64 m.nodes, .int .i64 m.txs, .int .i64 m.steps, .int .i64 m.keys, .int .i64 m.writes, .int .i64 m.quits, .int .i64 m.drops, .int .i64 m.falls]).cell
  clear hu
  unfold MixD.val
  go_enter Tryd.func5, Tryd.ntmps5
  go_wp2_with fail
  refine (in_ok m.nodes 1 8 _).mono ?_
  rintro e _ ⟨rfl, rfl⟩
  cases h0 : inR m.nodes 1 8 with
  | false =>
    go_wp2_with fail
    go_ret
    exact ⟨by simp [mayB, h0], HU.out⟩
  | true =>
    go_wp2_with fail
    refine (in_ok m.txs 0 50 _).mono ?_
    rintro e _ ⟨rfl, rfl⟩
    cases h1 : inR m.txs 0 50 with
    | false =>
      go_wp2_with fail
      go_ret
      exact ⟨by simp [mayB, h0, h1], HU.out⟩
    | true =>
      go_wp2_with fail
      refine (in_ok m.steps 0 20 _).mono ?_
      rintro e _ ⟨rfl, rfl⟩
      cases h2 : inR m.steps 0 20 with
      | false =>
        go_wp2_with fail
        go_ret
        exact ⟨by simp [mayB, h0, h1, h2], HU.out⟩
      | true =>
        go_wp2_with fail
        refine (in_ok m.keys 1 100 _).mono ?_
        rintro e _ ⟨rfl, rfl⟩
        cases h3 : inR m.keys 1 100 with
        | false =>
          go_wp2_with fail
          go_ret
          exact ⟨by simp [mayB, h0, h1, h2, h3], HU.out⟩
        | true =>
          go_wp2_with fail
          refine (in_ok m.writes 0 100 _).mono ?_
          rintro e _ ⟨rfl, rfl⟩
          cases h4 : inR m.writes 0 100 with
          | false =>
            go_wp2_with fail
            go_ret
            exact ⟨by simp [mayB, h0, h1, h2, h3, h4], HU.out⟩
          | true =>
            go_wp2_with fail
            refine (in_ok m.quits 0 100 _).mono ?_
            rintro e _ ⟨rfl, rfl⟩
            cases h5 : inR m.quits 0 100 with
            | false =>
              go_wp2_with fail
              go_ret
              exact ⟨by simp [mayB, h0, h1, h2, h3, h4, h5], HU.out⟩
            | true =>
              go_wp2_with fail
              refine (in_ok m.drops 0 100 _).mono ?_
              rintro e _ ⟨rfl, rfl⟩
              cases h6 : inR m.drops 0 100 with
              | false =>
                go_wp2_with fail
                go_ret
                exact ⟨by simp [mayB, h0, h1, h2, h3, h4, h5, h6], HU.out⟩
              | true =>
                go_wp2_with fail
                refine (in_ok m.falls 0 100 _).mono ?_
                rintro e _ ⟨rfl, rfl⟩
                have e7 : inR m.falls 0 100 = mayB m := by simp [mayB, h0, h1, h2, h3, h4, h5, h6]
                rw [e7]
                go_wp2_with fail
                go_ret
                exact ⟨rfl, HU.out⟩
end Go.Proofs.YtlboobboacjnmaaDoor
