/-
  NetOwn is true for every parcel and every number: a net's memory is its own, and a double is spoilt alone, and once.
  Conditions: none.
-/
import Derived.Test.YtnlidhclieipiaaNetOwn
import Derived.Test.YtnlidhclieipiaaPost
namespace Go.Proofs.Ytnlidhclieipiaa
open Go Go.ChangeShapes Go.WideShapes Go.ChangeAt Go.RowKit

theorem netOwn_all (p : Pcl) (v : Value) (at_ : Int) (w : World) (h : Reads w 1 v p.body.length (bytesV p.body)) (hm : p.body.length ≤ maxLen) :
    Calls Try.prog 6 #[p.val v, .int .i64 at_] w fun e w' => e = .returned (.bool true) ∧ Below w.heap.size w w' := by
  by_cases hb : 500 < p.body.length ∨ p.body.length = 0 ∨ p.spoilt = true
  · exact netOwn_bad p v at_ w h (by unfold maxLen at hm; omega) hb
  · obtain ⟨f, t, l, s⟩ := p
    simp only [not_or] at hb
    obtain rfl : s = false := by simpa using hb.2.2
    exact netOwn_walk f t l v at_ w h (by simpa using hb.1) (Nat.pos_of_ne_zero hb.2.1)

set_option maxRecDepth 100000 in
theorem netOwn_lifted (os : Os) (started : os.Started) (H : Type) (enc : TypeId × Value → H) :
    ReturnsInHanded {} Try.checked os 6 .any (Rows.netOwnSpec.pre6 enc Try.prog Try.f6 Rows.netOwnRow.domain false) (Rows.netOwnSpec.post enc Try.prog Try.f6 false true false false) := by
  refine returnsInHanded_of_change (C := Try.checked) own_knob started (by kernel_rfl) Try.func6
    (ChangeSpec.witness6 (enc := enc) (C := Try.checked) false ⟨#[], #[.agg #[.int .i64 0, .int .i64 0, .slice none 0 0, .bool false], .int .i64 0], []⟩ 8 (by kernel_rfl) (by kernel_rfl) (by kernel_rfl) (by kernel_rfl)) ?_
  intro W base args ds gs before hval0 hW _ _
  have hval : ∀ (j : Nat) t v, Try.f6.params[j]? = some t → args[j]? = some v → Value.okWide Try.prog W .any base t v := hval0
  have hW' := hW
  obtain ⟨p, q, hA0, hV, rfl, hfz, hnd⟩ := hW
  have hA : DataW.TrodAll enc Try.prog W 0 (fun _ => true) true Try.f6.params.toList args.toList ds p := hA0
  rw [Try.params6] at hA hval
  obtain ⟨v0, v1, d0, d1, p0, p1, rfl, rfl, rfl, h0, h1⟩ := trodAll_two hA
  obtain ⟨rfl, rfl⟩ := trodVars_none hV
  obtain ⟨x, rfl, hx, hm⟩ := open_parcel (hval 0 28 v0 rfl rfl) h0
  obtain ⟨i, rfl, _, _, _⟩ := open_int Try.underlying3 (hval 1 3 v1 rfl rfl) h1
  refine (netOwn_all x.1 x.2 i W hx hm).mono fun e W' ⟨he, hb⟩ => ?_
  exact ⟨_, he, law_post laid_out (by rw [Try.params6]; intro t ht; simp at ht; rcases ht with rfl | rfl <;> exact ⟨by kernel_rfl, of_decide_eq_true (by kernel_rfl)⟩) rfl hW' rfl rfl Try.underlying4 hb⟩

theorem netOwn_holds : Rows.NetOwnSaid :=
  OpenClaim.holds_of_wide 6 Try.f6 rfl rfl rfl rfl rfl rfl rfl ⟨rfl, rfl, rfl, rfl, rfl⟩ rfl rfl rfl rfl rfl (by kernel_rfl) Try.func6 (by kernel_rfl)
    (of_decide_eq_true (by kernel_rfl)) (by unfold Func.isWrapper; first | (rw [if_pos (by decide +kernel)]; kernel_rfl) | (rw [if_neg (by decide +kernel)]; exact ⟨rfl, rfl⟩))
    (fun os started H enc _ => netOwn_lifted os started H enc)
end Go.Proofs.Ytnlidhclieipiaa
