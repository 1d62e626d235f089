/-
  Calls that were run, for any symbols.
-/
import Derived.Test.YtljmmkjdlcfkpaaGreatDoorSeatB
namespace Go.Proofs.YtljmmkjdlcfkpaaGreatDoor
open Go Ev

/-- Bytes, the first one lowest. -/
noncomputable def ubs : Nat → Nat → List UInt8
  | 0, _ => []
  | k + 1, n => UInt8.ofNat (Nat.mod n 256) :: ubs k (Nat.div n 256)
noncomputable def u8s : Nat → Nat → List Value
  | 0, _ => []
  | k + 1, n => .int .u8 (.ofNat (Nat.mod n 256)) :: u8s k (Nat.div n 256)
def SnapOK (f : Nat) (s : Snap) : Prop := ∀ {l : List Value}, l.all symB = true → ∀ {args args' : List Value} {H : HS} {ρ : Ren} {w : World}, snapFit s args H = true → Match T0 (envOf l) ρ H w → Fixed ρ 1 → Fresh ρ H.n → VRs ρ (envOf l) args args' →
  Ran Tryz.prog f ⟨args'⟩ w (Outs T0 (envOf l) ρ H w [(s.v, ⟨baseH s.out .leaf, s.n1, []⟩)])
theorem snapOK {X : List (Nat × XK)} (hX : ∀ l : List Value, l.all symB = true → ExtOK Tryz.prog T0 (envOf l) 1 X) {f fuel n : Nat} {s : Snap} (hrun : snapRun s (evCall T0 1 F0 X fuel n (.fn f s.args) ⟨baseH s.base .leaf, s.n0, []⟩) = true) : SnapOK f s :=
  fun hl _ _ _ _ _ hfit hM hfx hfr hargs => snap_ok (calls0 hl (hX _ hl) fuel n) hrun hfit hM hfx hfr hargs
theorem snaps_nil {f : Nat} : ∀ s, s ∈ ([] : List Snap) → SnapOK f s := fun _ h => by cases h
theorem snaps_cons {f : Nat} {s : Snap} {ss : List Snap} (h : SnapOK f s) (h' : ∀ s, s ∈ ss → SnapOK f s) : ∀ x, x ∈ s :: ss → SnapOK f x := fun x hx => by
  rcases List.mem_cons.1 hx with rfl | hx
  · exact h
  · exact h' x hx
theorem ext_rows {l : List Value} (hl : l.all symB = true) {X : List (Nat × XK)} (hX : ExtOK Tryz.prog T0 (envOf l) 1 X) {f : Nat} (ss : List Snap) (h : ∀ s, s ∈ ss → SnapOK f s) : ExtOK Tryz.prog T0 (envOf l) 1 ((f, .snap ss) :: X) := by
  intro g k hk args H l' hE ρ w args' hM hfx hfr hargs
  simp only [look2, cond_eq] at hk
  split at hk
  rotate_left
  · exact hX g k hk args H l' hE ρ w args' hM hfx hfr hargs
  rename_i hg
  obtain rfl := Nat.eq_of_beq_eq_true hg
  simp only [Option.some.injEq] at hk
  subst hk
  have hE' : snapsV args H ss = some l' := by
    unfold evX at hE
    exact hE
  clear hE
  induction ss with
  | nil => cases hE'
  | cons s ss ih =>
    simp only [snapsV, cond_eq] at hE'
    split at hE'
    · rename_i hfit
      simp only [Option.some.injEq] at hE'
      subst hE'
      exact h s (List.mem_cons_self ..) hl hfit hM hfx hfr hargs
    · exact ih (fun x hx => h x (List.mem_cons_of_mem _ hx)) hE'
/-- A function that was run from the table alone, and gave true. -/
theorem known_true {X : List (Nat × XK)} (hX : ∀ {l : List Value}, l.all symB = true → ExtOK Tryz.prog T0 (envOf l) 1 X) {f fuel n : Nat} (hrun : oneTrue base0 (evCall T0 1 F0 X fuel n (.fn f []) H0) = true) {l : List Value} (h : l.all symB = true) {X' : List (Nat × XK)} (hX' : ExtOK Tryz.prog T0 (envOf l) 1 X') :
    ExtOK Tryz.prog T0 (envOf l) 1 ((f, .known (.bool true) base0) :: X') := fun g k hk args H l' hE ρ w args' hM hfx hfr hargs => by
  simp only [look2, cond_eq] at hk
  split at hk
  · rename_i hg
    obtain rfl := Nat.eq_of_beq_eq_true hg
    simp only [Option.some.injEq] at hk
    subst hk
    obtain ⟨H1, hrun, hb1⟩ := oneTrue_some hrun
    exact known_ok (T := T0) (env := envOf l) (n0 := 1) (H1 := H1) (G := 1) rfl rfl (Nat.le_refl _) hb1 (fun ρ w hM hfx hfr => (calls0 h (hX h) fuel n).fn f [] H0 _ hrun ρ w [] hM hfx hfr .nil) args H l' hE ρ w args' hM hfx hfr hargs
  · exact hX' g k hk args H l' hE ρ w args' hM hfx hfr hargs
theorem calls_true {X : List (Nat × XK)} (hX : ∀ {l : List Value}, l.all symB = true → ExtOK Tryz.prog T0 (envOf l) 1 X) {f fuel n : Nat} {fn : Func} {c : Code} (hf : F0.find f = some fn) (hb : fn.body = some c) (hrun : oneTrue base0 (evCall T0 1 F0 X fuel n (.fn f []) H0) = true) {w : World} (hw : HalfAt w) :
    Calls Tryz.prog f #[] w fun e w' => e = .returned (.bool true) ∧ Go.RowKit.Below w.heap.size w w' := by
  obtain ⟨ty, fz, hw⟩ := hw
  obtain ⟨H1, hrun, hb1⟩ := oneTrue_some hrun
  refine Calls.mono (ev_calls (args' := []) (env := envOf []) mix0 (cx0 rfl) fns0 (hX rfl) hf hb hrun (match0 hw) (ren0_fixed ty fz) (ren0_fresh ty fz) .nil) ?_
  rintro e w' ⟨v', rfl, p, hp, ρ', hv, hP⟩
  rw [List.mem_singleton] at hp
  subst hp
  cases hv
  exact ⟨rfl, below0 hw hP hb1⟩
end Go.Proofs.YtljmmkjdlcfkpaaGreatDoor
