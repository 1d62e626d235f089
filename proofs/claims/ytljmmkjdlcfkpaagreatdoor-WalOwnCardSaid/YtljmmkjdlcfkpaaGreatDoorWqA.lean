/-
  Regions that draw and whose callees make memory but change none: one walk in the order of the text, in the class of all worlds that grew out of one.
-/
import Derived.Test.YtljmmkjdlcfkpaaGreatDoorWm8
import Derived.Deep.Quiet
import Derived.BigQuiet
namespace Go.Proofs.YtljmmkjdlcfkpaaGreatDoor
open Go Go.RowKit

section
variable {P : Program} {ops : Array Oper} {C : World → Prop} {Q : Act → Prop} {K : Act → Prop} {a : Act} {o : Oper} {rest : List Oper}
theorem quiet_val {v : Value} (h : ∀ w, C w → (execOp a.eval o).run P w = .ok (.value v) w) (hk : K (a.put o.dst v)) : o.quiet P a C K :=
  ⟨v, fun w hw => by unfold Oper.quietAt; rw [h w hw]; exact ⟨rfl, rfl⟩, hk⟩
theorem quiet_load (ty : TypeId) (x : Operand) (ho : o.op = .load ty x) {p v : Value} (hx : a.eval x = p) (h : ∀ w, C w → (Instr.loadAt ty p).run P w = .ok v w) (hk : K (a.put o.dst v)) : o.quiet P a C K :=
  quiet_val (fun w hw => by
    unfold execOp
    simp only [ho, hx, Sem.run_bind, Sem.run_pure, h w hw, Result.andThen_ok]) hk
theorem quiet_call {f : FuncId} {args : Array Value} {v : Value} (hr : ∀ w, C w → (execOp a.eval o).run P w = .ok (.enter f args) w) (h : ∀ w, C w → Calls P f args w fun e w' => e = .returned v ∧ C w') (hk : K (a.put o.dst v)) : o.quiet P a C K :=
  ⟨v, fun w hw => by unfold Oper.quietAt; rw [hr w hw]; exact ⟨rfl, h w hw⟩, hk⟩
/-- A region that draws, walked in the order of the text, in the worlds that grew out of w0. -/
theorem wp_region_grown {id : Nat} {Q' : Exit → Act → World → Prop} {w0 w : World} {l : List Oper} (hm : P.follows .mixedOrders = true) (hB : Region.lexB .any l.toArray = true) (hw : Upd Nowhere w0 w)
    (h : wpQuiet P l.toArray (fun w' => Upd Nowhere w0 w') (fun a' => ∀ w', Upd Nowhere w0 w' → Q' .normal a' w') l a) : (Code.region id l.toArray true).wp P Q' a w :=
  wp_region_quiet (C := fun w' => Upd Nowhere w0 w') hm hB hw.drew (by simpa using h)
end
end Go.Proofs.YtljmmkjdlcfkpaaGreatDoor
