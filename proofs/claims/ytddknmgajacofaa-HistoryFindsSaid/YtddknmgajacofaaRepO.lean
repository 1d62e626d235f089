/-
  History: what a Replay answers.
-/
import Derived.Test.YtddknmgajacofaaHistM
namespace Go.Proofs.Ytddknmgajacofaa
open Go Go.RowKit

/-- What a Replay answers. -/
def RepOut (w : World) (st : Option (List (Ky × Vl))) (r : Ending) (w' : World) : Prop := match st with
  | none => r = .returned (.tuple #[.slice none 0 0, .bool false]) ∧ Upd Nowhere w w'
  | some vals => ∃ v', r = .returned (.tuple #[v', .bool true]) ∧ Made w w' v' vals
theorem RepOut.wrong {w w' : World} {st : Option (List (Ky × Vl))} (h : st = none) (hu : Upd Nowhere w w') : RepOut w st (.returned (.tuple #[.slice none 0 0, .bool false])) w' := by subst h; exact ⟨rfl, hu⟩
theorem RepOut.right {w w' : World} {st : Option (List (Ky × Vl))} {vals : List (Ky × Vl)} {v' : Value} (h : st = some vals) (hm : Made w w' v' vals) : RepOut w st (.returned (.tuple #[v', .bool true])) w' := by subst h; exact ⟨_, rfl, hm⟩
end Go.Proofs.Ytddknmgajacofaa
