/-
  HistoryReplays is true for every list of events and every order: what is replayed, and whether each read is right, is the document's.
  Conditions: none.
-/
import Derived.Test.YtlhmbbnjnonmnaaHistU
import Derived.Test.YtlhmbbnjnonmnaaPost
import Derived.Test.YtlhmbbnjnonmnaaOpenEls
namespace Go.Proofs.Ytlhmbbnjnonmnaa
open Go Go.ChangeShapes Go.WideShapes Go.ChangeAt Go.RowKit

set_option maxRecDepth 100000
section
variable {H : Type} {enc : TypeId × Value → H} {W : World} {base : Nat} {sp : Nat → Bool} {held : Bool}
theorem one_int : Try.prog.cellsOf 3 = 1 := by kernel_rfl
theorem one_bool : Try.prog.cellsOf 4 = 1 := by kernel_rfl
theorem one_string : Try.prog.cellsOf 9 = 1 := by kernel_rfl
theorem two_value : Try.prog.cellsOf 33 = 2 := by kernel_rfl
theorem event_open {n : Nat} {cs : List Value} {y : DataW H × List MemPlace} (hl : cs.length = 5) (h : DataW.trod enc Try.prog W base sp held n 35 cs = some y) : ∃ e : EvD, cs = e.cells := by
  match cs, hl with
  | [c0, c1, c2, c3, c4], _ =>
    obtain ⟨⟨z0, m0, g0⟩, ⟨z1, m1, g1⟩, ⟨z2, m2, g2⟩, ⟨z3, m3, g3⟩⟩ := trod_fields4 Try.underlying35 h
    simp only [one_int, one_string, two_value, List.drop_succ_cons, List.drop_zero, List.take_succ_cons, List.take_zero] at g0 g1 g2 g3
    obtain ⟨⟨z4, m4, g4⟩, ⟨z5, m5, g5⟩⟩ := trod_fields2 Try.underlying33 g3
    simp only [one_bool, one_string, List.drop_succ_cons, List.drop_zero, List.take_succ_cons, List.take_zero] at g4 g5
    obtain ⟨k0, e0, _, _⟩ := DataW.trod_int Try.underlying3 g0
    obtain ⟨k1, e1, _, _⟩ := DataW.trod_int Try.underlying3 g1
    obtain ⟨k2, e2, _, _⟩ := DataW.trod_string Try.underlying9 g2
    obtain ⟨k4, e4, _⟩ := DataW.trod_bool Try.underlying4 g4
    obtain ⟨k5, e5, _, _⟩ := DataW.trod_string Try.underlying9 g5
    simp only [List.cons.injEq, and_true] at e0 e1 e2 e4 e5
    subst e0 e1 e2 e4 e5
    exact ⟨⟨k0, k1, k2, k4, k5⟩, rfl⟩
theorem num_open {n : Nat} {cs : List Value} {y : DataW H × List MemPlace} (_hl : cs.length = 1) (h : DataW.trod enc Try.prog W base sp held n 3 cs = some y) : ∃ k : Int, cs = [.int .i64 k] := by
  obtain ⟨k, e, _, _⟩ := DataW.trod_int Try.underlying3 h
  exact ⟨k, e⟩
end

theorem historyReplays_lifted (os : Os) (started : os.Started) (H : Type) (enc : TypeId × Value → H) :
    ReturnsInHanded {} Try.checked os 3 .any (Rows.historyReplaysSpec.pre6 enc Try.prog Try.f3 Rows.historyReplaysRow.domain false) (Rows.historyReplaysSpec.post enc Try.prog Try.f3 false true false false) := by
  refine returnsInHanded_of_change (C := Try.checked) own_knob started (by kernel_rfl) Try.func3
    (ChangeSpec.witness6 (enc := enc) (C := Try.checked) false ⟨#[], #[.slice none 0 0, .slice none 0 0], []⟩ 8 (by kernel_rfl) (by kernel_rfl) (by kernel_rfl) (by kernel_rfl)) ?_
  intro W base args ds gs before hval0 hW _ _
  have hval : ∀ (j : Nat) t v, Try.f3.params[j]? = some t → args[j]? = some v → Value.okWide Try.prog W .any base t v := hval0
  have hW' := hW
  obtain ⟨p, q, hA0, hV, rfl, hfz, hnd⟩ := hW
  have hA : DataW.TrodAll enc Try.prog W 0 (fun _ => true) true Try.f3.params.toList args.toList ds p := hA0
  rw [Try.params3] at hA hval
  obtain ⟨v0, v1, d0, d1, p0, p1, rfl, rfl, rfl, h0, h1⟩ := trodAll_two hA
  obtain ⟨rfl, rfl⟩ := trodVars_none hV
  obtain ⟨L, hE⟩ := open_els 5 EvD.cells (by omega) EvD.cells_len Try.underlying22 (hval 0 22 v0 rfl rfl) (by kernel_rfl) h0 fun n cs y hl hy => event_open hl hy
  obtain ⟨o, hO⟩ := open_els 1 (fun n : Int => [Value.int .i64 n]) (by omega) (fun _ => rfl) Try.underlying23 (hval 1 23 v1 rfl rfl) (by kernel_rfl) h1 fun n cs y hl hy => num_open hl hy
  refine (historyReplays_walk hE hO).mono fun e W' ⟨he, hb⟩ => ?_
  exact ⟨_, he, law_post laid_out (by rw [Try.params3]; intro t ht; simp at ht; rcases ht with rfl | rfl <;> exact ⟨by kernel_rfl, of_decide_eq_true (by kernel_rfl)⟩) rfl hW' rfl rfl Try.underlying4 (hb.toBelow fun _ _ => id)⟩

theorem historyReplays_holds : Rows.HistoryReplaysSaid :=
  OpenClaim.holds_of_wide 3 Try.f3 rfl rfl rfl rfl rfl rfl rfl ⟨rfl, rfl, rfl, rfl, rfl⟩ rfl rfl rfl rfl rfl (by kernel_rfl) Try.func3 (by kernel_rfl)
    (of_decide_eq_true (by kernel_rfl)) (by unfold Func.isWrapper; first | (rw [if_pos (by decide +kernel)]; kernel_rfl) | (rw [if_neg (by decide +kernel)]; exact ⟨rfl, rfl⟩))
    (fun os started H enc _ => historyReplays_lifted os started H enc)
end Go.Proofs.Ytlhmbbnjnonmnaa
