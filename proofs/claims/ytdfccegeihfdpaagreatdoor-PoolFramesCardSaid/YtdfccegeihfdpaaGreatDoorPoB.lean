/-
  A page's two places on the disk, written by turns (plain Lean, no program in sight).
-/
import Derived.Test.YtdfccegeihfdpaaGreatDoorPoA
namespace Go.Proofs.YtdfccegeihfdpaaGreatDoor

section
variable {α : Type}
/-- One place: torn, or a page with its turn. -/
abbrev Sl (α : Type) := Option (Nat × α)
def pickS (odd : Nat) (s : Sl α) (b : α × Nat) : α × Nat := match s with
  | some (t, p) => if b.2 < t ∧ t % 2 = odd then (p, t) else b
  | none => b
def loadS (e : α) (s0 s1 : Sl α) : α × Nat := pickS 1 s1 (pickS 0 s0 (e, 0))
def putS (turn : Nat) (x : Sl α) (s : Sl α × Sl α) : Sl α × Sl α := if turn % 2 = 0 then (x, s.2) else (s.1, x)
theorem pickS_cases (odd : Nat) (s : Sl α) (b : α × Nat) : (pickS odd s b = b ∧ ∀ t p, s = some (t, p) → t % 2 = odd → t ≤ b.2) ∨ ∃ t p, s = some (t, p) ∧ t % 2 = odd ∧ b.2 < t ∧ pickS odd s b = (p, t) := by
  cases s with
  | none => exact .inl ⟨rfl, fun _ _ h => (by cases h)⟩
  | some x =>
    obtain ⟨t, p⟩ := x
    unfold pickS
    dsimp only
    split
    · rename_i h
      exact .inr ⟨t, p, rfl, h.2, h.1, rfl⟩
    · rename_i h
      refine .inl ⟨rfl, fun t' p' e h' => ?_⟩
      cases e
      exact Nat.le_of_not_lt fun h3 => h ⟨h3, h'⟩
theorem pickS_some {odd t : Nat} {p : α} {b : α × Nat} (h : b.2 < t) (h' : t % 2 = odd) : pickS odd (some (t, p)) b = (p, t) := by
  unfold pickS
  dsimp only
  rw [if_pos ⟨h, h'⟩]
/-- The next turn, put whole, is what is loaded. -/
theorem load_put {e q : α} {s : Sl α × Sl α} (t : Nat) (h : (loadS e s.1 s.2).2 = t) : loadS e (putS (t + 1) (some (t + 1, q)) s).1 (putS (t + 1) (some (t + 1, q)) s).2 = (q, t + 1) := by
  obtain ⟨s0, s1⟩ := s
  unfold loadS at *
  dsimp only at h
  by_cases hp : (t + 1) % 2 = 0
  · unfold putS
    rw [if_pos hp]
    dsimp only
    rw [pickS_some (by simp) hp]
    rcases pickS_cases 1 s1 (q, t + 1) with ⟨h1, _⟩ | ⟨t', p', rfl, h2, h3, _⟩
    · exact h1
    · exfalso
      dsimp only at h3
      rcases pickS_cases 1 (some (t', p')) (pickS 0 s0 (e, 0)) with ⟨h4, h5⟩ | ⟨t2, p2, h6, _, _, h7⟩
      · have := h5 t' p' rfl h2
        rw [h4] at h
        omega
      · cases h6
        rw [h7] at h
        dsimp only at h
        omega
  · unfold putS
    rw [if_neg hp]
    dsimp only
    refine pickS_some ?_ (by omega)
    rcases pickS_cases 1 s1 (pickS 0 s0 (e, 0)) with ⟨h4, _⟩ | ⟨t2, p2, _, _, h6, h7⟩
    · rw [h4] at h; omega
    · rw [h7] at h
      dsimp only at h
      omega
/-- Torn, or of another turn, it leaves what was loaded. -/
theorem load_torn {e : α} {s : Sl α × Sl α} (t : Nat) (h : (loadS e s.1 s.2).2 = t) : loadS e (putS (t + 1) none s).1 (putS (t + 1) none s).2 = loadS e s.1 s.2 := by
  obtain ⟨s0, s1⟩ := s
  unfold loadS at *
  dsimp only at h
  by_cases hp : (t + 1) % 2 = 0
  · unfold putS
    rw [if_pos hp]
    dsimp only
    have hn : pickS 0 (none : Sl α) (e, 0) = (e, 0) := rfl
    rw [hn]
    rcases pickS_cases 0 s0 (e, 0) with ⟨h1, _⟩ | ⟨t0, p0, rfl, h2, h3, h4⟩
    · rw [h1]
    · rw [h4] at h ⊢
      rcases pickS_cases 1 s1 (p0, t0) with ⟨h5, _⟩ | ⟨t1, p1, rfl, h6, h7, h8⟩
      · rw [h5] at h
        dsimp only at h
        omega
      · rw [h8]
        exact pickS_some (by dsimp only at h7 ⊢; omega) h6
  · unfold putS
    rw [if_neg hp]
    dsimp only
    rcases pickS_cases 1 s1 (pickS 0 s0 (e, 0)) with ⟨h5, _⟩ | ⟨t1, p1, rfl, h6, h7, h8⟩
    · rw [h5]; rfl
    · rw [h8] at h
      dsimp only at h
      omega
end
end Go.Proofs.YtdfccegeihfdpaaGreatDoor
