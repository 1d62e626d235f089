/-
  History: the document's works; a key's value.
-/
import Derived.Test.YtddknmgajacofaaHistC
import Derived.Test.YtddknmgajacofaaHistB
import Derived.Laws.Rows
namespace Go.Proofs.Ytddknmgajacofaa
open Go Go.RowKit

/-- Does event i, which is e, count? -/
def wkOf (l : List EvD) (e : EvD) (i : Nat) : Bool := (decide (e.kind = 1) || decide (e.kind = 2)) && (decide (firstE l e.tx 3 < firstE l e.tx 4) && decide (i < firstE l e.tx 3))
set_option maxHeartbeats 1000000 in
theorem hworks_ok {w : World} {v : Value} {l : List EvD} (h : EvsE w v l) (hl : l.length ≤ 1000) {i : Nat} {e : EvD} (he : l[i]? = some e) : Calls Try.prog 35 #[v, .int .i64 i] w fun r w' => r = .returned (.bool (wkOf l e i)) ∧ w' = w := by
  have hlt : i < l.length := (List.getElem?_eq_some_iff.1 he).1
  obtain ⟨b, off, c, rfl, hb, h0, h1, _, _, _⟩ := event_at h he
  have hi : (i : Int) < (l.length : Nat) := by omega
  have H := Lib.hid h
  clear h he
  by_cases hk : e.kind = 1 ∨ e.kind = 2
  · have HW : Hid (wkOf l e i = (decide (firstE l e.tx 3 < firstE l e.tx 4) && decide (i < firstE l e.tx 3))) := Lib.hid (by
      rcases hk with hk | hk <;> simp [wkOf, hk])
    cases hs : decide (firstE l e.tx 3 < firstE l e.tx 4) with
    | true =>
      have HS := Lib.hid hs
      clear hs
      rcases hk with hk | hk
      all_goals
        go_enter Try.func35, Try.ntmps35
        go_wp2_with fail
        refine (his_ok H.out hl e.tx).mono ?_
        rintro r _ ⟨rfl, rfl⟩
        rw [HS.out]
        go_wp2_with fail
        refine (hfirst_ok H.out hl e.tx 3).mono ?_
        rintro r _ ⟨rfl, rfl⟩
        go_wp2_with fail
        go_ret
        refine ⟨?_, rfl⟩
        rw [HW.out, HS.out]
        simp
    | false =>
      have HS := Lib.hid hs
      clear hs
      rcases hk with hk | hk
      all_goals
        go_enter Try.func35, Try.ntmps35
        go_wp2_with fail
        refine (his_ok H.out hl e.tx).mono ?_
        rintro r _ ⟨rfl, rfl⟩
        rw [HS.out]
        go_wp2_with fail
        go_ret
        refine ⟨?_, rfl⟩
        rw [HW.out, HS.out]
        simp
  · have k1 : ¬ e.kind = 1 := fun h => hk (.inl h)
    have k2 : ¬ e.kind = 2 := fun h => hk (.inr h)
    have HW : Hid (wkOf l e i = false) := Lib.hid (by simp [wkOf, k1, k2])
    clear hk
    go_enter Try.func35, Try.ntmps35
    go_wp2_with fail
    go_ret
    exact ⟨by rw [HW.out]; rfl, rfl⟩
end Go.Proofs.Ytddknmgajacofaa
