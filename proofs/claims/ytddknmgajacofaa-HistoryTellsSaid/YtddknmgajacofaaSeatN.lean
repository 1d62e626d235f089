/-
  The seat's program in the evaluator, for a seat without package-level variables: tables; a function that gives true.
-/
import Derived.Test.YtddknmgajacofaaEvM5
import Derived.Test.YtddknmgajacofaaLib
import Derived.Test.YtddknmgajacofaaChecked
namespace Go.Proofs.Ytddknmgajacofaa
open Go Go.RowKit Ev

noncomputable def idsFrom : Nat → Nat → List Nat
  | _, 0 => []
  | i, n + 1 => i :: idsFrom (i + 1) n
/-- The functions and types that are looked at. -/
noncomputable def fnIds : List Nat := idsFrom 3 117
noncomputable def tyIds : List Nat := (idsFrom 0 157).filter fun i => !hasN i [13, 14, 18, 19, 142, 143, 145, 146, 154, 155]
noncomputable def T0 : TT TypeInfo := tabOf Try.prog.types.toList tyIds .leaf
noncomputable def F0 : TT Func := tabOf Try.prog.funcs.toList fnIds .leaf
noncomputable def H0 : HS := ⟨.leaf, 0, []⟩
theorem fns0 : Fns Try.prog 0 F0 := fns_ok (by kernel_rfl)
theorem tys0 : tysB Try.prog Try.prog.types.toList tyIds = true := by kernel_rfl
theorem mix0 : Try.prog.follows .mixedOrders = true := by kernel_rfl
noncomputable def envN : Nat → Value := fun _ => .int .i64 0
theorem cxN : Cx Try.prog T0 envN 0 := cx_ok tys0 (fun _ => rfl) (fun _ _ h => by cases h)
theorem extN : ExtOK Try.prog T0 envN 0 [] := fun f k hk => by cases hk
noncomputable def isTrueV : Value → Bool
  | .bool true => true
  | _ => false
/-- Are all outcomes true? -/
noncomputable def allTrue : Option (List (Value × HS)) → Bool
  | some l => l.all fun p => isTrueV p.1
  | none => false
theorem calls_allTrue {f fuel n : Nat} {fn : Func} {c : Code} (hf : F0.find f = some fn) (hb : fn.body = some c) (hrun : allTrue (evCall T0 0 F0 [] fuel n (.fn f []) H0) = true) (w : World) :
    Calls Try.prog f #[] w fun e w' => e = .returned (.bool true) ∧ Upd Nowhere w w' := by
  unfold allTrue at hrun
  split at hrun
  · rename_i l hl
    have hM : Match T0 envN (fun _ => none) H0 w := match_base (l := []) (fun _ _ h => by cases h) (fun _ _ _ _ h => by cases h)
    refine Calls.mono (ev_calls (args' := []) (env := envN) mix0 cxN fns0 extN hf hb hl hM (fun g hg => by omega) (fun _ _ => rfl) .nil) ?_
    rintro e w' ⟨v', rfl, p, hp, ρ', hv, hP⟩
    have h1 := List.all_eq_true.1 hrun p hp
    unfold isTrueV at h1
    split at h1
    · rename_i hb
      rw [hb] at hv
      cases hv
      refine ⟨rfl, Upd.ofBelow (below_of_post hP (Nat.le_refl _) ?_) _⟩
      rintro k _ ⟨id, o, l, h1, h2, h3, rfl⟩
      cases h3
    · cases h1
  · cases hrun
end Go.Proofs.Ytddknmgajacofaa
