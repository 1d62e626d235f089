/-
  LoadActs: awake.
-/
import Derived.Test.YtlboobboacjnmaaDoorLoadJ
import Derived.Test.YtlboobboacjnmaaDoorLoadT
namespace Go.Proofs.YtlboobboacjnmaaDoor
open Go Go.RowKit

def m1 : MixD := ⟨1, 1, 0, 1, 0, 0, 0, 0⟩
theorem m1_may : mayB m1 = true := by decide
theorem m1_acts (x : Int) : ∃ a b c : ActD, acL m1 x m1.txs.toNat = [a, b, c] ∧ a.kind = 12 ∧ b.kind = 15 ∧ c.kind = 18 := by
  refine ⟨_, _, _, rfl, rfl, ?_, rfl⟩
  show txEnd m1 _ = 15
  unfold txEnd
  rw [if_neg]
  have := dr_nonneg (stX m1 (nx x) m1.steps.toNat) 100
  show ¬ dr (stX m1 (nx x) m1.steps.toNat) 100 < 0
  omega
set_option maxHeartbeats 4000000 in
set_option maxRecDepth 100000 in
theorem awake_ok (w : World) : Calls Tryd.prog 7 #[] w fun e w' => e = .returned (.bool true) ∧ Upd Nowhere w w' := by
  go_enter Tryd.func7, Tryd.ntmps7
  go_wp2_with fail
  refine (acts_ok 5 m1 w m1_may).mono ?_
  rintro e w1 ⟨A, c, rfl, ho, hu⟩
  obtain ⟨a, b, d, hL, ha, hb, hd⟩ := m1_acts (x0 5)
  rw [hL] at ho ⊢
  obtain ⟨G, c', he, hc⟩ := own_cells ho (by simp)
  cases he
  have c0 : w1.cell? ⟨G, 0, none⟩ = some (.int .i64 12) := by rw [← ha]; exact hc 0 _ rfl
  have c1 : w1.cell? ⟨G, 11, none⟩ = some (.int .i64 15) := by rw [← hb]; exact hc 11 _ rfl
  have c2 : w1.cell? ⟨G, 22, none⟩ = some (.int .i64 18) := by rw [← hd]; exact hc 22 _ rfl
  have HU := Lib.hid hu
  clear hc ho hu hL ha hb hd
  go_wp2_with fail
  go_ret
  exact ⟨rfl, HU.out⟩
end Go.Proofs.YtlboobboacjnmaaDoor
