/-
  A list sorted by numbers that differ is told by its members (plain Lean, no program in sight).
-/
import Derived.Test.YtdfccegeihfdpaaGreatDoorPoA
namespace Go.Proofs.YtdfccegeihfdpaaGreatDoor

theorem perm_sorted {α : Type} (key : α → Int) : ∀ {L M : List α}, L.Perm M → L.Pairwise (fun a b => key a < key b) → M.Pairwise (fun a b => key a < key b) → L = M
  | [], M, hp, _, _ => (List.nil_perm.1 hp).symm
  | x :: L, [], hp, _, _ => absurd hp.length_eq (by simp)
  | x :: L, y :: M, hp, hL, hM => by
    obtain ⟨h1, h2⟩ := List.pairwise_cons.1 hL
    obtain ⟨h3, h4⟩ := List.pairwise_cons.1 hM
    have hx := hp.mem_iff.1 (List.mem_cons_self ..)
    have hy := hp.mem_iff.2 (List.mem_cons_self ..)
    have hxy : x = y := by
      rcases List.mem_cons.1 hx with h | h
      · exact h
      · rcases List.mem_cons.1 hy with h' | h'
        · exact h'.symm
        · have := h3 x h
          have := h1 y h'
          omega
    subst hxy
    rw [perm_sorted key ((List.perm_cons x).1 hp) h2 h4]
/-- Sorted by a comparison that lets equals stand, of numbers that differ: sorted strictly. -/
theorem sorted_strict {α : Type} (key : α → Int) {L : List α} (hs : L.Pairwise fun a b => ¬ key b < key a) (hn : (L.map key).Nodup) : L.Pairwise fun a b => key a < key b := by
  have h2 : L.Pairwise fun a b => key a ≠ key b := List.pairwise_map.1 hn
  exact (hs.and h2).imp fun {a b} h => by
    obtain ⟨h3, h4⟩ := h
    omega
/-- The least of a list's numbers, as a walk over it in whatever order finds it. -/
structure LeastAt {α : Type} (p : α → Prop) (key : α → Int) (S : α → Prop) (o : Option α) : Prop where
  none_ : o = none → ∀ x, S x → ¬ p x
  some_ : ∀ a, o = some a → S a ∧ p a ∧ ∀ x, S x → p x → key a ≤ key x
theorem LeastAt.start {α : Type} (p : α → Prop) (key : α → Int) : LeastAt p key (fun _ => False) none := ⟨fun _ _ h => h.elim, fun _ h => (by cases h)⟩
theorem LeastAt.skip {α : Type} {p : α → Prop} {key : α → Int} {S : α → Prop} {o : Option α} (h : LeastAt p key S o) {a : α} (ha : ¬ p a ∨ ∃ b, o = some b ∧ key b ≤ key a) : LeastAt p key (fun x => S x ∨ x = a) o := by
  refine ⟨fun ho x hx => ?_, fun b hb => ?_⟩
  · rcases hx with hx | rfl
    · exact h.none_ ho x hx
    · rcases ha with ha | ⟨b, hb, _⟩
      · exact ha
      · rw [ho] at hb; cases hb
  · obtain ⟨h1, h2, h3⟩ := h.some_ b hb
    refine ⟨.inl h1, h2, fun x hx hp => ?_⟩
    rcases hx with hx | rfl
    · exact h3 x hx hp
    · rcases ha with ha | ⟨c, hc, hk⟩
      · exact absurd hp ha
      · rw [hb] at hc; cases hc; exact hk
theorem LeastAt.take {α : Type} {p : α → Prop} {key : α → Int} {S : α → Prop} {o : Option α} (h : LeastAt p key S o) {a : α} (ha : p a) (hl : ∀ b, o = some b → key a < key b) : LeastAt p key (fun x => S x ∨ x = a) (some a) := by
  refine ⟨fun ho => (by cases ho), fun b hb => ?_⟩
  cases hb
  refine ⟨.inr rfl, ha, fun x hx hp => ?_⟩
  rcases hx with hx | rfl
  · cases o with
    | none => exact absurd hp (h.none_ rfl x hx)
    | some b =>
      have h1 := hl b rfl
      have h2 := (h.some_ b rfl).2.2 x hx hp
      omega
  · exact Int.le_refl _
end Go.Proofs.YtdfccegeihfdpaaGreatDoor
