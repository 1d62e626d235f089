/-
  NetNil is true for every parcel and every number: a nil net answers ErrNil and zeros.
  Conditions: none.
-/
import Derived.Test.YtnlidhclieipiaaNetNil
import Derived.Test.YtnlidhclieipiaaPost
namespace Go.Proofs.Ytnlidhclieipiaa
open Go Go.ChangeShapes Go.WideShapes Go.ChangeAt Go.RowKit

theorem cells_parcel : Try.prog.cellsOf 28 = 4 := by kernel_rfl

/-- A parcel that came in: its value. -/
theorem open_parcel {H : Type} {enc : TypeId × Value → H} {W : World} {base b0 : Nat} {r : Reach} {spare : Nat → Bool} {held : Bool} {v : Value} {d : DataW H} {p : List MemPlace} (hv : Value.okWide Try.prog W r b0 28 v) (h : DataW.Trod enc Try.prog W base spare held 28 v d p) :
    ∃ (f t : Int) (A : Option Addr) (n c m : Nat) (s : Bool) (y : DataW H × List MemPlace), v = .agg #[.int .i64 f, .int .i64 t, .slice A n c, .bool s] ∧ DataW.trod enc Try.prog W base spare held m 26 [.slice A n c] = some y := by
  obtain ⟨v0, v1, v2, v3, y0, y1, y2, y3, m, rfl, rfl, rfl, h0, h1, h2, h3⟩ := Joins.open_agg4 Try.underlying28 (by kernel_rfl) cells_parcel hv h
  obtain ⟨a, e0, _, _⟩ := DataW.trod_int Try.underlying3 h0
  obtain ⟨b, e1, _, _⟩ := DataW.trod_int Try.underlying3 h1
  obtain ⟨s, e3, _⟩ := DataW.trod_bool Try.underlying4 h3
  simp only [List.cons.injEq, and_true] at e0 e1 e3
  subst e0 e1 e3
  rcases Deep.open_slice Try.underlying26 h2 with ⟨e2, _⟩ | ⟨a', len, cap, _, _, _, _, e2, _⟩
  · simp only [List.cons.injEq, and_true] at e2
    subst e2
    exact ⟨a, b, none, 0, 0, m, s, y2, rfl, h2⟩
  · simp only [List.cons.injEq, and_true] at e2
    subst e2
    exact ⟨a, b, some a', len, cap, m, s, y2, rfl, h2⟩

set_option maxRecDepth 100000 in
theorem netNil_lifted (os : Os) (started : os.Started) (H : Type) (enc : TypeId × Value → H) :
    ReturnsInHanded {} Try.checked os 7 .any (Rows.netNilSpec.pre6 enc Try.prog Try.f7 Rows.netNilRow.domain false) (Rows.netNilSpec.post enc Try.prog Try.f7 false true false false) := by
  refine returnsInHanded_of_change (C := Try.checked) own_knob started (by kernel_rfl) Try.func7
    (ChangeSpec.witness6 (enc := enc) (C := Try.checked) false ⟨#[], #[.agg #[.int .i64 0, .int .i64 0, .slice none 0 0, .bool false], .int .i64 0], []⟩ 8 (by kernel_rfl) (by kernel_rfl) (by kernel_rfl) (by kernel_rfl)) ?_
  intro W base args ds gs before hval0 hW _ _
  have hval : ∀ (j : Nat) t v, Try.f7.params[j]? = some t → args[j]? = some v → Value.okWide Try.prog W .any base t v := hval0
  have hW' := hW
  obtain ⟨p, q, hA0, hV, rfl, hfz, hnd⟩ := hW
  have hA : DataW.TrodAll enc Try.prog W 0 (fun _ => true) true Try.f7.params.toList args.toList ds p := hA0
  rw [Try.params7] at hA hval
  obtain ⟨v0, v1, d0, d1, p0, p1, rfl, rfl, rfl, h0, h1⟩ := trodAll_two hA
  obtain ⟨rfl, rfl⟩ := trodVars_none hV
  obtain ⟨f, t, A, n, c, m, s, y, rfl, _⟩ := open_parcel (hval 0 28 v0 rfl rfl) h0
  obtain ⟨i, rfl, _, _, _⟩ := open_int Try.underlying3 (hval 1 3 v1 rfl rfl) h1
  refine (netNil_walk f t s A n c i W).mono fun e W' ⟨he, hb⟩ => ?_
  exact ⟨_, he, law_post laid_out (by rw [Try.params7]; intro t ht; simp at ht; rcases ht with rfl | rfl <;> exact ⟨by kernel_rfl, of_decide_eq_true (by kernel_rfl)⟩) rfl hW' rfl rfl Try.underlying4 hb⟩

theorem netNil_holds : Rows.NetNilSaid :=
  OpenClaim.holds_of_wide 7 Try.f7 rfl rfl rfl rfl rfl rfl rfl ⟨rfl, rfl, rfl, rfl, rfl⟩ rfl rfl rfl rfl rfl (by kernel_rfl) Try.func7 (by kernel_rfl)
    (of_decide_eq_true (by kernel_rfl)) (by unfold Func.isWrapper; first | (rw [if_pos (by decide +kernel)]; kernel_rfl) | (rw [if_neg (by decide +kernel)]; exact ⟨rfl, rfl⟩))
    (fun os started H enc _ => netNil_lifted os started H enc)
end Go.Proofs.Ytnlidhclieipiaa
