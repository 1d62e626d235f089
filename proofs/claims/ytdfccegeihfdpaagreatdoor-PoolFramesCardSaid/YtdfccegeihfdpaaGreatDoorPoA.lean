/-
  Pages of cells: sorted keys, a value set (plain Lean, no program in sight).
-/
import Derived.Test.YtdfccegeihfdpaaGreatDoorWm1
namespace Go.Proofs.YtdfccegeihfdpaaGreatDoor

abbrev Ky := List UInt8
abbrev Vl := Bool × List UInt8
def noV : Vl := (false, [])
abbrev Cl := List (Ky × Vl)
/-- Sorted by key, no key twice. -/
abbrev RisC (L : Cl) : Prop := L.Pairwise fun a b => a.1 < b.1
def setC : Cl → Ky → Vl → Cl
  | [], k, v => [(k, v)]
  | (a, b) :: L, k, v => if k < a then (k, v) :: (a, b) :: L else if a = k then (k, v) :: L else (a, b) :: setC L k v
theorem setC_mem (k : Ky) (v : Vl) : ∀ (L : Cl) (p : Ky × Vl), p ∈ setC L k v → p = (k, v) ∨ p ∈ L
  | [], p, h => .inl (List.mem_singleton.1 h)
  | (a, b) :: L, p, h => by
    unfold setC at h
    split at h
    · exact (List.mem_cons.1 h).imp id id
    · split at h
      · exact (List.mem_cons.1 h).imp id fun h => List.mem_cons_of_mem _ h
      · rcases List.mem_cons.1 h with h | h
        · exact .inr (h ▸ List.mem_cons_self ..)
        · exact (setC_mem k v L p h).imp id fun h => List.mem_cons_of_mem _ h
theorem setC_in (k : Ky) (v : Vl) : ∀ L : Cl, (k, v) ∈ setC L k v
  | [] => List.mem_singleton.2 rfl
  | (a, b) :: L => by
    unfold setC
    split
    · exact List.mem_cons_self ..
    · split
      · exact List.mem_cons_self ..
      · exact List.mem_cons_of_mem _ (setC_in k v L)
theorem setC_ris (k : Ky) (v : Vl) : ∀ {L : Cl}, RisC L → RisC (setC L k v)
  | [], _ => List.pairwise_singleton _ _
  | (a, b) :: L, h => by
    obtain ⟨h1, h2⟩ := List.pairwise_cons.1 h
    unfold setC
    split
    · rename_i hk
      exact List.pairwise_cons.2 ⟨fun p hp => by
        rcases List.mem_cons.1 hp with rfl | hp
        · exact hk
        · exact List.lt_trans hk (h1 p hp), h⟩
    · split
      · rename_i hk
        subst hk
        exact List.pairwise_cons.2 ⟨h1, h2⟩
      · rename_i hk hn
        refine List.pairwise_cons.2 ⟨fun p hp => ?_, setC_ris k v h2⟩
        rcases setC_mem k v L p hp with rfl | hp
        · exact Classical.byContradiction fun hge => hn (List.le_antisymm (List.not_lt.1 hk) (List.not_lt.1 hge))
        · exact h1 p hp
theorem setC_len (k : Ky) (v : Vl) : ∀ L : Cl, (setC L k v).length ≤ L.length + 1
  | [] => Nat.le_refl _
  | (a, b) :: L => by
    unfold setC
    have := setC_len k v L
    split
    · simp
    · split
      · simp
      · simp; omega
/-- The place of a key: the first cell whose key is not less. -/
structure PlaceC (L : Cl) (k : Ky) (i : Nat) : Prop where
  le : i ≤ L.length
  less : ∀ (j : Nat) (p : Ky × Vl), j < i → L[j]? = some p → p.1 < k
  here : ∀ p, L[i]? = some p → ¬ p.1 < k
theorem PlaceC.cons {L : Cl} {k : Ky} {p : Ky × Vl} {i : Nat} (h : PlaceC (p :: L) k (i + 1)) : PlaceC L k i ∧ p.1 < k :=
  ⟨⟨by have := h.le; simp at this; omega, fun j q hj hq => h.less (j + 1) q (by omega) (by simpa using hq), fun q hq => h.here q (by simpa using hq)⟩, h.less 0 p (by omega) rfl⟩
theorem setC_new {k : Ky} {v : Vl} : ∀ {L : Cl} {i : Nat}, PlaceC L k i → (∀ p, L[i]? = some p → p.1 ≠ k) → setC L k v = L.take i ++ (k, v) :: L.drop i
  | [], 0, _, _ => rfl
  | [], i + 1, h, _ => absurd h.le (by simp)
  | (a, b) :: L, 0, h, hn => by
    have h1 := h.here (a, b) rfl
    have h2 := hn (a, b) rfl
    unfold setC
    rw [if_pos (Classical.byContradiction fun hk => h2 (List.le_antisymm (List.not_lt.1 hk) (List.not_lt.1 h1)))]
    rfl
  | (a, b) :: L, i + 1, h, hn => by
    obtain ⟨h1, h2⟩ := h.cons
    unfold setC
    rw [if_neg fun hk => List.lt_irrefl _ (List.lt_trans hk h2), if_neg fun e => List.lt_irrefl _ (e ▸ h2), setC_new h1 fun p hp => hn p (by simpa using hp)]
    rfl
theorem setC_old {k : Ky} {v u : Vl} : ∀ {L : Cl} {i : Nat}, PlaceC L k i → L[i]? = some (k, u) → setC L k v = L.set i (k, v)
  | [], i, _, h => by simp at h
  | (a, b) :: L, 0, _, h => by
    obtain rfl : a = k := by simpa using congrArg (Option.map Prod.fst) h
    unfold setC
    rw [if_neg (List.lt_irrefl _), if_pos rfl]
    rfl
  | (a, b) :: L, i + 1, h, hx => by
    obtain ⟨h1, h2⟩ := h.cons
    unfold setC
    rw [if_neg fun hk => List.lt_irrefl _ (List.lt_trans hk h2), if_neg fun e => List.lt_irrefl _ (e ▸ h2), setC_old h1 (by simpa using hx)]
    rfl
/-- What a page holds under a key. -/
def getC (L : Cl) (k : Ky) : Vl := ((L.find? fun p => decide (p.1 = k)).map (·.2)).getD noV
theorem getC_set (k : Ky) (v : Vl) : ∀ (L : Cl) (c : Ky), getC (setC L k v) c = if c = k then v else getC L c
  | [], c => by
    unfold setC getC
    by_cases h : c = k
    · subst h; simp
    · have : ¬ k = c := fun e => h e.symm
      simp [h, this]
  | (a, b) :: L, c => by
    have ih := getC_set k v L c
    unfold getC at ih ⊢
    unfold setC
    split
    · by_cases h : c = k
      · subst h; simp
      · have : ¬ k = c := fun e => h e.symm
        simp [h, this]
    · split
      · rename_i hk
        subst hk
        by_cases h : c = a
        · subst h; simp
        · have : ¬ a = c := fun e => h e.symm
          simp [h, this]
      · rename_i hk hn
        by_cases h : a = c
        · subst h
          have : ¬ a = k := hn
          simp [this]
        · rw [List.find?_cons_of_neg (by simpa using h), List.find?_cons_of_neg (by simpa using h)]
          exact ih
/-- A page has room for a key. -/
def roomC (m : Nat) (L : Cl) (k : Ky) : Prop := L.length < m ∨ ∃ v, (k, v) ∈ L
theorem setC_room {m : Nat} {L : Cl} {k : Ky} (v : Vl) (hr : RisC L) (hm : L.length ≤ m) (h : roomC m L k) : (setC L k v).length ≤ m := by
  rcases h with h | ⟨u, h⟩
  · have := setC_len k v L
    omega
  · have key : ∀ L : Cl, RisC L → (k, u) ∈ L → (setC L k v).length = L.length := by
      intro L
      induction L with
      | nil => intro _ h; cases h
      | cons p L ih =>
        intro hr h
        obtain ⟨h1, h2⟩ := List.pairwise_cons.1 hr
        obtain ⟨a, b⟩ := p
        unfold setC
        rcases List.mem_cons.1 h with h | h
        · cases h
          rw [if_neg (List.lt_irrefl _), if_pos rfl]
          simp
        · have h3 := h1 _ h
          rw [if_neg fun hk => List.lt_irrefl _ (List.lt_trans hk h3), if_neg fun e => List.lt_irrefl _ (e ▸ h3)]
          simp only [List.length_cons]
          rw [ih h2 h]
    rw [key L hr h]
    exact hm
end Go.Proofs.YtdfccegeihfdpaaGreatDoor
