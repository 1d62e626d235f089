/-
  HistoryFinds is true for all events, places and values: where one committed read has another value, the same order does not replay.
  Conditions: none.
-/
import Derived.Test.YtddknmgajacofaaFindD
import Derived.Test.YtddknmgajacofaaPost
import Derived.Test.YtddknmgajacofaaOpenEls
import Derived.Test.YtddknmgajacofaaOpenEv
namespace Go.Proofs.Ytddknmgajacofaa
open Go Go.ChangeShapes Go.WideShapes Go.ChangeAt Go.RowKit

set_option maxRecDepth 100000
theorem historyFinds_lifted (os : Os) (started : os.Started) (H : Type) (enc : TypeId × Value → H) :
    ReturnsInHanded {} Try.checked os 4 .any (Rows.historyFindsSpec.pre6 enc Try.prog Try.f4 Rows.historyFindsRow.domain false) (Rows.historyFindsSpec.post enc Try.prog Try.f4 false true false false) := by
  refine returnsInHanded_of_change (C := Try.checked) own_knob started (by kernel_rfl) Try.func4
    (ChangeSpec.witness6 (enc := enc) (C := Try.checked) false ⟨#[], #[.slice none 0 0, .int .i64 0, .agg #[.bool false, .string ⟨#[]⟩]], []⟩ 8 (by kernel_rfl) (by kernel_rfl) (by kernel_rfl) (by kernel_rfl)) ?_
  intro W base args ds gs before hval0 hW _ _
  have hval : ∀ (j : Nat) t v, Try.f4.params[j]? = some t → args[j]? = some v → Value.okWide Try.prog W .any base t v := hval0
  have hW' := hW
  obtain ⟨p, q, hA0, hV, rfl, hfz, hnd⟩ := hW
  have hA : DataW.TrodAll enc Try.prog W 0 (fun _ => true) true Try.f4.params.toList args.toList ds p := hA0
  rw [Try.params4] at hA hval
  obtain ⟨v0, v1, v2, d0, d1, d2, p0, p1, p2, rfl, rfl, rfl, h0, h1, h2⟩ := trodAll_three hA
  obtain ⟨rfl, rfl⟩ := trodVars_none hV
  obtain ⟨L, hE⟩ := open_els 5 EvD.cells (by omega) EvD.cells_len Try.underlying22 (hval 0 22 v0 rfl rfl) (by kernel_rfl) h0 fun n cs y hl hy => event_open hl hy
  obtain ⟨i, rfl, _, _, _⟩ := open_int Try.underlying3 (hval 1 3 v1 rfl rfl) h1
  obtain ⟨x0, x1, y0, y1, m, rfl, _, _, g0, g1⟩ := Joins.open_agg2 Try.underlying35 (by kernel_rfl) two_value (hval 2 35 v2 rfl rfl) h2
  obtain ⟨vh, e0, _⟩ := DataW.trod_bool Try.underlying4 g0
  obtain ⟨vd, e1, _, _⟩ := DataW.trod_string Try.underlying9 g1
  simp only [List.cons.injEq, and_true] at e0 e1
  subst e0 e1
  refine (historyFinds_walk hE i vh vd).mono fun e W' ⟨he, hb⟩ => ?_
  exact ⟨_, he, law_post laid_out (by rw [Try.params4]; intro t ht; simp at ht; rcases ht with rfl | rfl | rfl <;> exact ⟨by kernel_rfl, of_decide_eq_true (by kernel_rfl)⟩) rfl hW' rfl rfl Try.underlying4 (hb.toBelow fun _ _ => id)⟩

theorem historyFinds_holds : Rows.HistoryFindsSaid :=
  OpenClaim.holds_of_wide 4 Try.f4 rfl rfl rfl rfl rfl rfl rfl ⟨rfl, rfl, rfl, rfl, rfl⟩ rfl rfl rfl rfl rfl (by kernel_rfl) Try.func4 (by kernel_rfl)
    (of_decide_eq_true (by kernel_rfl)) (by unfold Func.isWrapper; first | (rw [if_pos (by decide +kernel)]; kernel_rfl) | (rw [if_neg (by decide +kernel)]; exact ⟨rfl, rfl⟩))
    (fun os started H enc _ => historyFinds_lifted os started H enc)
end Go.Proofs.Ytddknmgajacofaa
