/-
  A number's digits by the reference.
-/
import Derived.Test.YtlboobboacjnmaaDoorLoadC
namespace Go.Proofs.YtlboobboacjnmaaDoor
open Go Go.RowKit

theorem dig1_ok (n : Nat) (h : n < 10) (w : World) : Calls Tryd.prog 14 #[.int .i64 n] w fun e w' => e = .returned (.string (digs n)) ∧ w' = w := by
  unfold digs
  rw [Lib.decDigits_one h]
  rcases (by omega : n = 0 ∨ n = 1 ∨ n = 2 ∨ n = 3 ∨ n = 4 ∨ n = 5 ∨ n = 6 ∨ n = 7 ∨ n = 8 ∨ n = 9) with rfl | rfl | rfl | rfl | rfl | rfl | rfl | rfl | rfl | rfl
  all_goals
    go_enter Tryd.func14, Tryd.ntmps14
    go_wp2
    go_ret
    exact ⟨rfl, rfl⟩
theorem dig2_ok (n : Nat) (h : n < 100) (w : World) : Calls Tryd.prog 14 #[.int .i64 n] w fun e w' => e = .returned (.string (digs n)) ∧ w' = w := by
  by_cases h1 : n < 10
  · exact dig1_ok n h1 w
  have hs : digs n = digs (n / 10) ++ digs (n % 10) := by
    unfold digs
    rw [Lib.decDigits_one (by omega : n / 10 < 10), Lib.decDigits_one (by omega : n % 10 < 10), Lib.decDigits_two (by omega) h]
    rfl
  have ds1 := digs_size (i := n / 10) (by omega)
  have ds2 := digs_size (i := n % 10) (by omega)
  have hc1 : ∀ W : World, (Op.stringOp .add (digs (n / 10)) (digs (n % 10))).run Tryd.prog W = .ok (.string (digs (n / 10) ++ digs (n % 10))) W := fun W => run_string_add_sum W _ _ (by omega)
  have HS := Lib.hid hs
  have h10 : ¬ (n : Int) < 10 := by omega
  clear hs
  go_enter Tryd.func14, Tryd.ntmps14
  go_wp2_with fail
  have e1 : (n : Int) / 10 = ((n / 10 : Nat) : Int) := by omega
  rw [e1]
  refine (dig1_ok (n / 10) (by omega) _).mono ?_
  rintro e _ ⟨rfl, rfl⟩
  clear e1
  go_wp2_with fail
  have e2 : (n : Int) % 10 = ((n % 10 : Nat) : Int) := by omega
  rw [e2]
  refine (dig1_ok (n % 10) (by omega) _).mono ?_
  rintro e _ ⟨rfl, rfl⟩
  clear e2
  go_wp2_with fail
  go_ret
  exact ⟨by rw [HS.out]; rfl, rfl⟩
end Go.Proofs.YtlboobboacjnmaaDoor
