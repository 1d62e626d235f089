/-
  From the kit's walk to the evaluator's calls.
-/
import Derived.Test.YtekflbnfagldcaaGreatDoorEvM5
namespace Go.Proofs.YtekflbnfagldcaaGreatDoor.Ev
open Go

section
variable {P : Program} {G : Nat}
/-- A body that is walked runs, as a plain call or as a deferred one. -/
theorem ran_of_wp {fns : TT Func} (hF : Fns P G fns) {f : Nat} {fn : Func} {c : Code} {args : Array Value} {w : World} {R : Value → World → Prop} (hf : fns.find f = some fn) (hb : fn.body = some c)
    (h : c.wp P (bodyPost P fn fun e w' => ∃ v, e = .returned v ∧ R v w') { tmps := args ++ Array.replicate (fn.ntmps - args.size) undef, defers := [] } w) : Ran P f args w R := by
  have hPf := hF.at_ f fn hf
  refine .inr ⟨run_enter hPf (hF.name f fn hf) hb _ _, fun kd cs hkd => ?_⟩
  let b : Frame := { (default : Frame) with fn := f, kind := kd }
  have henter : Frame.enter P f args kd = b.at { tmps := args ++ Array.replicate (fn.ntmps - args.size) undef, defers := [] } [.code c] := by
    simp [Frame.enter, Frame.at, hPf, hb, b]
  obtain ⟨e, a', w', hq, harr⟩ := h b [] cs
  rw [← henter] at harr
  cases e with
  | normal =>
    obtain ⟨hd, v, hr, v', he, hR⟩ := hq
    injection he with he
    subst he
    exact ⟨v, w', _, hR, Steps.trans harr (.one step_end), rfl, rfl, rfl, hd, fn, hPf, hr⟩
  | ret =>
    obtain ⟨hd, v, hr, v', he, hR⟩ := hq
    injection he with he
    subst he
    obtain ⟨todo, hs⟩ := harr
    exact ⟨v, w', _, hR, hs, rfl, rfl, rfl, hd, fn, hPf, hr⟩
  | panic chain => obtain ⟨_, _, he, _⟩ := hq; cases he
  | outgrown => obtain ⟨_, he, _⟩ := hq; cases he
  | _ => exact hq.elim
end
end Go.Proofs.YtekflbnfagldcaaGreatDoor.Ev
